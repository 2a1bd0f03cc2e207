/- Part of the proof that ParseParens answers true at every input. -/
import Derived.Test.YtdkchodgklpomaaGreatDoorPPab
set_option linter.all false
namespace Go.Proofs.YtdkchodgklpomaaGreatDoor
set_option maxRecDepth 100000
open Go.Value (int slice string bool pointer agg tuple func float iface nilIface)
open Go.IntKind (i64 u8 u64 i32 u32 u16 i8 i16)
open Go.FloatKind (f64)
open Go.Ending (returned panicked)
section
def aH(S:List (Nat×ah))(l:List Nat):ah:=.dq (rest S l)
def dL(a b:Int):Ending:=.panicked [{v:=.iface 51 (.agg ⟨[.int .i64 a,.int .i64 b]⟩),recovered:=false}]
def aw(b i:Nat):Prop:=d9 ⟨b,i,none⟩ b
def bM(z:Int):Prop:=(-9223372036854775808:Int)<=z/\z<=9223372036854775807
def cz(b:Nat)(p:Prop):Prop:=d9 ⟨b,0,none⟩ b/\d9 ⟨b,1,none⟩ b/\d9 ⟨b,2,none⟩ b/\d9 ⟨b,3,none⟩ b/\d9 ⟨b,4,none⟩ b/\p
abbrev ad(z:Int):Value:=.int .i64 z
abbrev a8(z:Int):Value:=.int .u8 z
abbrev aA(z:Int):Value:=.int .u64 z
abbrev ec(z:Int):Value:=.int .i32 z
abbrev ai(s:ByteArray):Value:=.string s
abbrev aj(b:Bool):Value:=.bool b
abbrev ag(a:Option Addr):Value:=.pointer a
abbrev au:= @Value.slice
abbrev fh:= @Value.iface
abbrev af:= @ah.cells
abbrev lE:= @ah.gW
abbrev eT:= @ah.dq
abbrev bd:=ah.d0
def b7(z:Int):=BitVec.ofInt IntKind.u64.bits z
def gQ(z:Int):=BitVec.ofInt IntKind.i64.bits z
def bf(z:Int):Int:=IntKind.u64.wrap z
def bU(z:Int):Int:=IntKind.i64.wrap z
def DF(z:Int):Int:=IntKind.i32.wrap z
def aS(p:Prop)[Decidable p](a b:Prop):Prop:=Br (decide p) a b
abbrev ax(v:Value):Ending:=.returned v
def aT{X:Type}(p:X->(Nat->Value)->Prop):Prop:=∀a j,p a j
section
variable{X:Type}{A:Prop}{aa:List Value}{pp:List ah}{fa:X->List Value}{fp:X->List ah}{c r K:X->Prop}
theorem br(ok:A)(z:X)(b:c z)(d:r z)(k:K z)(a:aa=fa z:=by exact rfl)(hp:pp=fp z:=by exact rfl):A/\true=true/\∃z,aa=fa z/\pp=fp z/\c z/\r z/\K z:=⟨ok,rfl,z,a,hp,b,d,k⟩
theorem bO(ok:A)(z:X)(b:c z)(k:K z)(a:aa=fa z:=by exact rfl)(hp:pp=fp z:=by exact rfl)(d:r z:=by exact trivial):A/\true=true/\∃z,aa=fa z/\pp=fp z/\c z/\r z/\K z:=⟨ok,rfl,z,a,hp,b,d,k⟩
theorem kV(ok:A)(z:X)(k:K z)(a:aa=fa z:=by exact rfl)(hp:pp=fp z:=by exact rfl)(b:c z:=by exact trivial)(d:r z:=by exact trivial):A/\true=true/\∃z,aa=fa z/\pp=fp z/\c z/\r z/\K z:=⟨ok,rfl,z,a,hp,b,d,k⟩
end
def aW(C:aQ):OH:=.c C [] []
def bu(C:aQ):OH:=.c C [0] [0]
def aR(n:Nat):OH:=.q [.z00 n]
def aX:OH:=.q []
def c9:OH:=.q [.ex 0 (.int .i64)]
def dV(C:aQ):OH:=.o C [0] [0]
theorem adi:Tryz.prog.follows .mixedOrders=true:=by kernel_rfl
theorem ame{a b:Nat}(h:Nat.ble a b=true):a<=b:=Nat.le_of_ble_eq_true h
def aY{X:Type}:X->ah->Nat->Option Inv:=fun _ _ _=>none
def bA:Nat->List Nat:=fun _=>[]
abbrev aC(f:FuncId)(C:aQ):Prop:=jW Tryz.prog f C
theorem fo{f:FuncId}{fn:Func}{c:Code}{C:aQ}(N:Nat)(l:Tryz.prog.funcs[f]?=some fn)(o:C.X->ah->List (Nat×Nat×OH))(hs:List (Nat×Nat×OH))(b a:C.X->ah->Nat->Option Inv)(od:Nat->List Nat)(d:List LH){v:C.X->ah->Prop}(h:∀x F,C.cond x->C.aO x F->v x F)
  (j:fn.body=some c:=by exact rfl) (i:fn.ntmps=N:=by kernel_rfl) (hl:∀x,(C.args x).length<=N:=by intro _;exact Nat.le_of_ble_eq_true rfl) (k:∀x F,v x F=Body Tryz.prog N fn ⟨hk (o x F++hs),b x F,a x F,od⟩ d c (mK (C.args x)) (bD (C.pre x++[F])) (ar C x F):=by intro _ _;kernel_rfl):jW Tryz.prog f C:=
 adf adi l j i hl (fun x F=>⟨hk (o x F++hs),b x F,a x F,od⟩) d fun x F e g=>Eq.mp (k x F) (h x F e g)
open Go
theorem wZ{p q:Int}(h:p=q):returned (.int .i64 p)= .returned (.int .i64 q):=congrArg (fun q=>returned (int .i64 q)) h
theorem kG{p q:Bool}(h:p=q):returned (.bool p)= .returned (.bool q):=congrArg (fun q=>returned (bool q)) h
theorem yS{c:Nat}(h:c<256):u8.wrap (↑(BitVec.ofInt u8.bits (↑c:Int)|||BitVec.ofInt u8.bits 32).toNat:Int)=((c|||32:Nat):Int):=by
 have:∀d:Fin 256,u8.wrap (↑(BitVec.ofInt u8.bits (↑d.val:Int)|||BitVec.ofInt u8.bits 32).toNat:Int)=((d.val|||32:Nat):Int):=by decide
 exact this ⟨c,h⟩
theorem f_(s:ByteArray)(i:Int):aF s i=(bt s i.toNat:Int):=by
 unfold aF bt;rw[fg,Array.getElem?_toList];cases s.data[i.toNat]? <;> rfl
theorem ud{s:ByteArray}{i:Nat}(h:s.size<=i):bt s i=0:=by
 unfold bt;simp[*]
theorem g0(s:ByteArray)(i:Nat):bt s i<256:=by
 unfold bt;cases h:s.data[i]? with
 |none=>show(0:Nat)<256;omega
 |some b=>exact b.toNat_lt
structure nf where
 c:Nat
def vR(p:Nat->Bool):aQ where
 X:=nf
 args x:=[a8 x.c]
 cond x:=x.c<256
 val x _:=ax (aj (p x.c))
def rG:aQ:=vR fi
def pi:aQ:=vR bL
def xh:aQ:=vR fv
def fm:=ax (aj true)
def P1(x:nf)(F:ah):=Br ((x.c:Int)==95) (ar rG x F fm [(0,F)]) (ar rG x F (ax (aj ((x.c:Int)==36))) [(0,F)])
def OC(x:nf)(F:ah):=aS ((x.c:Int)>=65) (aS ((x.c:Int)<=90) (ar rG x F fm [(0,F)]) (P1 x F)) (P1 x F)
theorem aff(x:nf)(F:ah)(a:rG.cond x)(c:rG.aO x F):aS ((x.c:Int)>=97) (aS ((x.c:Int)<=122) (ar rG x F fm [(0,F)]) (OC x F)) (OC x F):=by
 delta fm P1 OC aj aS ax;have b:x.c<256:=a
 repeat' (first| (refine aG (fun _=>?_) (fun _=>?_)))
 all_goals (refine⟨(),ao,kG (Bool.eq_iff_iff.2 ?_),az [0]⟩;simp_all [fi,mJ];try omega)
theorem NM:jW Tryz.prog 55 rG:=fo 25 Tryz.func55 (fun _ _=>[]) [] aY aY bA [] aff
def c6:=aj false
def cV:=ax c6
theorem ach(x:nf)(F:ah)(a:pi.cond x)(c:pi.aO x F):aS ((x.c:Int)>=48) (ar pi x F (ax (aj (decide ((x.c:Int)<=57)))) [(0,F)]) (ar pi x F cV [(0,F)]):=by
 delta c6 cV aj aS ax;have b:x.c<256:=a
 repeat' (first| (refine aG (fun _=>?_) (fun _=>?_)))
 all_goals (refine⟨(),ao,kG (Bool.eq_iff_iff.2 ?_),az [0]⟩;simp_all [bL,mJ];try omega)
theorem vT:jW Tryz.prog 58 pi:=fo 9 Tryz.func58 (fun _ _=>[]) [] aY aY bA [] ach
def T0(aa:List Value)(a:nf->Unit->Prop):=jW Tryz.prog 58 pi/\true=true/\∃(z:nf),aa=[a8 ↑z.c]/\([]:List ah)=[]/\z.c<256/\True/\∀(b:Unit),True->a z b
theorem ajM(x:nf)(F:ah)(d:xh.cond x)(f:xh.aO x F):T0 [a8 ↑x.c] (fun b a=>Br (bL b.c) (ar xh x F fm [(0,F)]) (aS (u8.wrap (↑(BitVec.ofInt u8.bits (x.c:Int)|||BitVec.ofInt u8.bits (32:Int)).toNat:Int)>=97) (ar xh x F (ax (aj (decide (u8.wrap (↑(BitVec.ofInt u8.bits (x.c:Int)|||BitVec.ofInt u8.bits (32:Int)).toNat:Int)<=102)))) [(0,F)]) (ar xh x F cV [(0,F)]))):=by
 delta T0 fm c6 cV a8 aj aS ax;have c:x.c<256:=d;have e:u8.wrap (↑(BitVec.ofInt u8.bits (↑x.c:Int)|||BitVec.ofInt u8.bits 32).toNat:Int)=((x.c|||32:Nat):Int):=yS c;rw[e];refine bO vT x c fun _ _=>?_
 repeat' (first| (refine aG (fun _=>?_) (fun _=>?_)))
 all_goals (refine⟨(),ao,kG (Bool.eq_iff_iff.2 ?_),az [0]⟩;simp_all [fv,mJ];try omega)
theorem WS:jW Tryz.prog 71 xh:=fo 15 Tryz.func71 (fun _ _=>[(1,1,aW pi)]) [] aY aY bA [] ajM
structure cC where
 b:Nat
 src:ByteArray
 i:Int
 aD:Bool
 oa:Option Addr
 on:Nat
 oc:Nat
def o3(x:cC)(F:ah):Prop:=aP F ⟨x.b,0,none⟩ (.string x.src)/\aP F ⟨x.b,1,none⟩ (.int .i64 x.i)
theorem o3.sub{x:cC}{A B:ah}(hs:Sub A B)(h:o3 x A):o3 x B:=⟨h.1.sub hs,h.2.sub hs⟩
def gi(x:cC):Option Addr:=some ⟨x.b,0,none⟩
def mU:aQ where
 X:=cC
 args x:=[ag (gi x)]
 cond x:=0<=x.i/\x.src.size<=1048576
 aO x F:=o3 x F
 val x _:=ax (a8 (bt x.src x.i.toNat))
 eM _ _ _ hs h:=o3.sub hs h
def T1(aa:ah)(a:Addr)(b:Int->Prop):=∃(z0:Int),aP aa a (ad z0)/\b z0
def T2(aa:ah)(a:Addr)(b:ByteArray->Prop):=∃(z0:ByteArray),aP aa a (ai z0)/\b z0
theorem ahB(x:cC)(F:ah)(f:mU.cond x)(g:mU.aO x F):true=true/\T1 F ⟨x.b,1,none⟩ (fun d=>T2 F ⟨x.b,0,none⟩ (fun c=>aS (d<c.size) (true=true/\T2 F ⟨x.b,0,none⟩ (fun b=>T1 F ⟨x.b,1,none⟩ (fun a=>(0<=a/\a<b.size)/\ar mU x F (ax (a8 (aF b a))) [(0,F)]))) (ar mU x F (ax (a8 0)) [(0,F)]))):=by
 delta T1 T2 ad a8 ai aS ax;have e:0<=x.i:=f.1;obtain⟨l0,l1⟩:=g;refine⟨rfl,x.i,l1,x.src,l0,bo (fun h=>⟨rfl,x.src,l0,x.i,l1,⟨e,h⟩,(),ao,?_,az [0]⟩) (fun h=>⟨(),ao,?_,az [0]⟩)⟩
 ·show returned _=returned _;rw[f_]
 ·show returned _=returned _;rw[ud ae];rfl
theorem sZ:jW Tryz.prog 54 mU:=fo 22 Tryz.func54 (fun _ _=>[(1,3,c9),(1,7,.q [.ex 0 .str]),(2,3,.q [.ex 0 .str]),(2,7,c9)]) [] aY aY bA [] ahB
def w6:aQ where
 X:=cC
 args x:=[ag (gi x)]
 cond x:=0<=x.i/\x.i<=x.src.size/\x.src.size<=1048576
 aO x F:=o3 x F
 val x _:=ax (ai (x.src.extract x.i.toNat x.src.size))
 eM _ _ _ hs h:=o3.sub hs h
theorem ai_(x:cC)(F:ah)(e:w6.cond x)(f:w6.aO x F):true=true/\T2 F ⟨x.b,0,none⟩ (fun b=>T1 F ⟨x.b,1,none⟩ (fun a=>(0<=a/\a<=b.size/\(b.size:Int)<=(b.size:Int))/\ar w6 x F (ax (ai (b.extract a.toNat (b.size:Int).toNat))) [(0,F)])):=by
 delta T2 T1 ad ai ax;obtain⟨c,d,_⟩:=e;obtain⟨l0,l1⟩:=f;exact⟨rfl,x.src,l0,x.i,l1,⟨c,d,cD _⟩,(),ao,rfl,az [0]⟩
theorem RQ:jW Tryz.prog 51 w6:=fo 12 Tryz.func51 (fun _ _=>[(1,3,.q [.ex 0 .str]),(1,7,c9)]) [] aY aY bA [] ai_
end
end Go.Proofs.YtdkchodgklpomaaGreatDoor
namespace Go.Proofs
section
open Go.Shelf
def ZQ:Go.Shelf.Ren:=⟨fun|119=>104|n=>n,fun|21=>21|4=>4|n=>n,fun|n=>n⟩
theorem ZP:Go.Proofs.Lays.n119 Tryz.prog ZQ:={
 mixed:=by kernel_rfl
 f119:=Tryz.func104.trans (congrArg some (by kernel_rfl))
 t4:=Tryz.underlying4
 a4:=Tryz.isAgg4
 z4:=Tryz.sizeOf4
 v4:=Tryz.zeroValue4
 t21:=Tryz.underlying21
 a21:=Tryz.isAgg21
 z21:=Tryz.sizeOf21
 v21:=Tryz.zeroValue21}
theorem Tryz.utf8_ValidRune(r:Int)(w:World):
  Calls Tryz.prog 104 #[.int .i32 r] w fun e w'=>e= .returned (.bool (Lib.validRune r))/\w'=w:=Any.utf8_ValidRune ZP r w
def al_:Go.Shelf.Ren:=⟨fun|137=>100|217=>79|266=>93|n=>n,fun|9=>9|5=>5|3=>3|n=>n,fun|n=>n⟩
def Z3:Go.Shelf.Ren:=⟨fun|217=>79|266=>93|n=>n,fun|9=>9|5=>5|3=>3|n=>n,fun|n=>n⟩
theorem Z2:Go.Proofs.Lays.n217 Tryz.prog Z3:={
 mixed:=by kernel_rfl
 f217:=Tryz.func79.trans (congrArg some (by kernel_rfl))
 f266:=Tryz.func93.trans (congrArg some (by kernel_rfl))
 t3:=Tryz.underlying3
 a3:=Tryz.isAgg3
 z3:=Tryz.sizeOf3
 v3:=Tryz.zeroValue3
 t5:=Tryz.underlying5
 a5:=Tryz.isAgg5
 z5:=Tryz.sizeOf5
 v5:=Tryz.zeroValue5
 t9:=Tryz.underlying9
 a9:=Tryz.isAgg9
 z9:=Tryz.sizeOf9
 v9:=Tryz.zeroValue9}
open Go.RowKit Go.Lib in
theorem Tryz.stringslite_IndexByte(s:ByteArray)(c:Int)(w:World):
  Calls Tryz.prog 79 #[.string s,.int .u8 c] w fun e w'=>e= .returned (.int .i64 (Lib.indexByte s.data.toList c.toNat.toUInt8))/\w'=w:=Any.stringslite_IndexByte Z2 s c w
def ama:Go.Shelf.Ren:=⟨fun|219=>69|217=>79|225=>80|224=>81|267=>82|266=>93|314=>94|n=>n,fun|9=>9|3=>3|4=>4|5=>5|46=>101|146=>116|51=>115|n=>n,fun|1=>4|n=>n⟩
def ZU:Go.Shelf.Ren:=⟨fun|143=>52|219=>69|217=>79|225=>80|224=>81|267=>82|266=>93|314=>94|n=>n,fun|9=>9|3=>3|4=>4|5=>5|46=>101|146=>116|51=>115|n=>n,fun|1=>4|n=>n⟩
theorem ZT:Go.Proofs.Lays.n143 Tryz.prog ZU:={
 mixed:=by kernel_rfl
 f143:=Tryz.func52.trans (congrArg some (by kernel_rfl))
 f217:=Tryz.func79.trans (congrArg some (by kernel_rfl))
 f219:=Tryz.func69.trans (congrArg some (by kernel_rfl))
 f224:=Tryz.func81.trans (congrArg some (by kernel_rfl))
 f225:=Tryz.func80.trans (congrArg some (by kernel_rfl))
 f266:=Tryz.func93.trans (congrArg some (by kernel_rfl))
 f267:=Tryz.func82.trans (congrArg some (by kernel_rfl))
 f314:=Tryz.func94.trans (congrArg some (by kernel_rfl))
 t3:=Tryz.underlying3
 a3:=Tryz.isAgg3
 z3:=Tryz.sizeOf3
 v3:=Tryz.zeroValue3
 t4:=Tryz.underlying4
 a4:=Tryz.isAgg4
 z4:=Tryz.sizeOf4
 v4:=Tryz.zeroValue4
 t5:=Tryz.underlying5
 a5:=Tryz.isAgg5
 z5:=Tryz.sizeOf5
 v5:=Tryz.zeroValue5
 t9:=Tryz.underlying9
 a9:=Tryz.isAgg9
 z9:=Tryz.sizeOf9
 v9:=Tryz.zeroValue9
 t46:=Tryz.underlying101
 a46:=Tryz.isAgg101
 z46:=Tryz.sizeOf101
 v46:=Tryz.zeroValue101
 t51:=Tryz.underlying115
 a51:=Tryz.isAgg115
 z51:=Tryz.sizeOf115
 v51:=Tryz.zeroValue115
 t146:=Tryz.underlying116
 a146:=Tryz.isAgg116
 z146:=Tryz.sizeOf116
 v146:=Tryz.zeroValue116
 g1:=by kernel_rfl}
open Go.RowKit Go.Lib in
theorem Tryz.strings_Index(s sub:ByteArray)(m:Int)(w:World)(hs:s.size<4294967281)(a:w.cell? ⟨4,0,none⟩=some (.int .i64 m)):
  Calls Tryz.prog 52 #[.string s,.string sub] w fun e w'=>e= .returned (.int .i64 (Lib.index s.data.toList sub.data.toList))/\w'=w:=Any.strings_Index ZT s sub m w hs a
def ZW:Go.Shelf.Ren:=⟨fun|144=>70|143=>52|219=>69|217=>79|225=>80|224=>81|267=>82|266=>93|314=>94|n=>n,fun|9=>9|4=>4|3=>3|5=>5|46=>101|146=>116|51=>115|n=>n,fun|1=>4|n=>n⟩
theorem ZV:Go.Proofs.Lays.n144 Tryz.prog ZW:={
 mixed:=by kernel_rfl
 f143:=Tryz.func52.trans (congrArg some (by kernel_rfl))
 f144:=Tryz.func70.trans (congrArg some (by kernel_rfl))
 f217:=Tryz.func79.trans (congrArg some (by kernel_rfl))
 f219:=Tryz.func69.trans (congrArg some (by kernel_rfl))
 f224:=Tryz.func81.trans (congrArg some (by kernel_rfl))
 f225:=Tryz.func80.trans (congrArg some (by kernel_rfl))
 f266:=Tryz.func93.trans (congrArg some (by kernel_rfl))
 f267:=Tryz.func82.trans (congrArg some (by kernel_rfl))
 f314:=Tryz.func94.trans (congrArg some (by kernel_rfl))
 t3:=Tryz.underlying3
 a3:=Tryz.isAgg3
 z3:=Tryz.sizeOf3
 v3:=Tryz.zeroValue3
 t4:=Tryz.underlying4
 a4:=Tryz.isAgg4
 z4:=Tryz.sizeOf4
 v4:=Tryz.zeroValue4
 t5:=Tryz.underlying5
 a5:=Tryz.isAgg5
 z5:=Tryz.sizeOf5
 v5:=Tryz.zeroValue5
 t9:=Tryz.underlying9
 a9:=Tryz.isAgg9
 z9:=Tryz.sizeOf9
 v9:=Tryz.zeroValue9
 t46:=Tryz.underlying101
 a46:=Tryz.isAgg101
 z46:=Tryz.sizeOf101
 v46:=Tryz.zeroValue101
 t51:=Tryz.underlying115
 a51:=Tryz.isAgg115
 z51:=Tryz.sizeOf115
 v51:=Tryz.zeroValue115
 t146:=Tryz.underlying116
 a146:=Tryz.isAgg116
 z146:=Tryz.sizeOf116
 v146:=Tryz.zeroValue116
 g1:=by kernel_rfl}
open Go.RowKit Go.Lib in
theorem Tryz.strings_Contains(s sub:ByteArray)(m:Int)(w:World)(hs:s.size<4294967281)(a:w.cell? ⟨4,0,none⟩=some (.int .i64 m)):
  Calls Tryz.prog 70 #[.string s,.string sub] w fun e w'=>e= .returned (.bool (Lib.contains s.data.toList sub.data.toList))/\w'=w:=Any.strings_Contains ZV s sub m w hs a
def Z1:Go.Shelf.Ren:=⟨fun|197=>67|260=>78|n=>n,fun|9=>9|21=>21|3=>3|4=>4|5=>5|105=>88|119=>111|0=>0|46=>101|139=>114|138=>113|n=>n,fun|3=>5|4=>6|n=>n⟩
theorem Z0:Go.Proofs.Lays.n197 Tryz.prog Z1:={
 mixed:=by kernel_rfl
 f197:=Tryz.func67.trans (congrArg some (by kernel_rfl))
 f260:=Tryz.func78.trans (congrArg some (by kernel_rfl))
 t0:=Tryz.underlying0
 a0:=Tryz.isAgg0
 z0:=Tryz.sizeOf0
 v0:=Tryz.zeroValue0
 t3:=Tryz.underlying3
 a3:=Tryz.isAgg3
 z3:=Tryz.sizeOf3
 v3:=Tryz.zeroValue3
 t4:=Tryz.underlying4
 a4:=Tryz.isAgg4
 z4:=Tryz.sizeOf4
 v4:=Tryz.zeroValue4
 t5:=Tryz.underlying5
 a5:=Tryz.isAgg5
 z5:=Tryz.sizeOf5
 v5:=Tryz.zeroValue5
 t9:=Tryz.underlying9
 a9:=Tryz.isAgg9
 z9:=Tryz.sizeOf9
 v9:=Tryz.zeroValue9
 t21:=Tryz.underlying21
 a21:=Tryz.isAgg21
 z21:=Tryz.sizeOf21
 v21:=Tryz.zeroValue21
 t46:=Tryz.underlying101
 a46:=Tryz.isAgg101
 z46:=Tryz.sizeOf101
 v46:=Tryz.zeroValue101
 t105:=Tryz.underlying88
 a105:=Tryz.isAgg88
 z105:=Tryz.sizeOf88
 v105:=Tryz.zeroValue88
 t119:=Tryz.underlying111
 a119:=Tryz.isAgg111
 z119:=Tryz.sizeOf111
 t138:=Tryz.underlying113
 a138:=Tryz.isAgg113
 z138:=Tryz.sizeOf113
 v138:=Tryz.zeroValue113
 t139:=Tryz.underlying114
 a139:=Tryz.isAgg114
 z139:=Tryz.sizeOf114
 v139:=Tryz.zeroValue114
 g3:=by kernel_rfl
 g4:=by kernel_rfl}
open Go.RowKit Go.Lib in
theorem Tryz.utf8_DecodeRuneInString(s:ByteArray)(w:World)(a:Lib.Utf8Tabs 5 6 w):
  Calls Tryz.prog 67 #[.string s] w fun e w'=>e= .returned (.tuple #[.int .i32 (Lib.decodeGo s).1,.int .i64 (Lib.decodeGo s).2])/\Below w.heap.size w w':=Any.utf8_DecodeRuneInString Z0 s w a
end
end Go.Proofs
namespace Go.Proofs.YtdkchodgklpomaaGreatDoor
set_option maxRecDepth 100000
open Go.Value (int slice string bool pointer agg tuple func float iface nilIface)
open Go.IntKind (i64 u8 u64 i32 u32 u16 i8 i16)
open Go.FloatKind (f64)
open Go.Ending (returned panicked)
section
open Go
variable{I:a_}{S:St}{w:World}
theorem Sat.below{w':World}(h:Sat I S w)(e:RowKit.Below w.heap.size w w'):Sat I S w':=by
 obtain⟨f,g,i,d⟩:=h.k7;have l:∀b,b<w.heap.size->hp w b=hp w' b:=fun b c=>(e.block b c).symm;refine⟨⟨f,fun j=>ah.local (fun b a=>l b (d _ _ a).2) (g j),i,fun j b a=>⟨(d _ _ a).1,Nat.lt_of_lt_of_le (d _ _ a).2 e.size⟩⟩,fun b o k=>?_⟩;have m:=h.mQ b o k;have c:b<w.heap.size:=by
  rcases Nat.lt_or_ge b w.heap.size with h'|h'
  ·exact h'
  ·have:hp w b=none:=Array.getElem?_eq_none h';grind
 grind
theorem qU{P:Program}{f:FuncId}(C:aQ)(c:∀x,C.pre x=[])(y:∀x,C.cond x->C.Y)(d:∀x h,C.bZ x (y x h))(a:∀x h,C.post x (y x h)=[])
  (h:∀(x:C.X)(F:ah)(I:a_)(w:World)(b:C.cond x),C.aO x F->Sat I (bD [F]) w->Calls P f ⟨C.args x⟩ w fun e w'=>e=C.val x (y x b)/\RowKit.Below w.heap.size w w'):jW P f C:=by
 refine⟨fun x F I w b j hs=>?_⟩;rw[c]at hs;refine(h x F I w b j hs).mono ?_;rintro e w' ⟨i,g⟩;exact⟨y x b,I,d x b,i,a_.le_refl I,by rw[a];exact hs.below g,g.os,g.output⟩
theorem Sat.v_{F:ah}(h:Sat I (bD [F]) w){a:Addr}{v:Value}(hl:aP F a v):w.cell? a=some v:=Sat.look (j:=0) h hl
structure f1(F:ah):Prop where
 first:∀c,c<256->aP F ⟨5,c,none⟩ (.int .u8 (Lib.firstT c))
 accLo:∀i,i<16->aP F ⟨6,2*i,none⟩ (.int .u8 (Lib.accLo i))
 accHi:∀i,i<16->aP F ⟨6,2*i+1,none⟩ (.int .u8 (Lib.accHi i))
theorem f1.sub{A B:ah}(h:f1 A)(hs:Sub A B):f1 B:=⟨fun c a=>(h.first c a).sub hs,fun i hi=>(h.accLo i hi).sub hs,fun i hi=>(h.accHi i hi).sub hs⟩
theorem f1.rest{bG:List Nat}{j:Nat}(a:j∉bG)(h:f1 (gt S j)):f1 (.dq (rest S bG)):=⟨fun c b=>(h.first c b).rest a,fun i hi=>(h.accLo i hi).rest a,fun i hi=>(h.accHi i hi).rest a⟩
structure vw where
 s:ByteArray
def GO:aQ where
 X:=vw
 args x:=[ai x.s]
 aO _ F:=f1 F
 val x _:=.returned (.tuple #[.int .i32 (Lib.decodeGo x.s).1,.int .i64 (Lib.decodeGo x.s).2])
theorem ab7:aC 67 GO:=qU GO (fun _=>rfl) (fun _ _=>()) (fun _ _=>ao) (fun _ _=>rfl) fun x F I w _ a hs=>
 Go.Proofs.Tryz.utf8_DecodeRuneInString x.s w ⟨fun c b=>hs.v_ (a.first c b),fun i hi=>⟨hs.v_ (a.accLo i hi),hs.v_ (a.accHi i hi)⟩⟩
theorem G6(s:ByteArray)(k:Nat):(s.get! k).toNat=bt s k:=by
 obtain⟨d⟩:=s;show(d[k]!).toNat=((d[k]?).map UInt8.toNat).getD 0;rw[getElem!_def];cases d[k]? <;> rfl
theorem abo(s:ByteArray)(i k:Nat):bt (s.extract i s.size) k=bt s (i+k):=by
 unfold bt;by_cases h:i+k<s.size
 ·rw[show(s.extract i s.size).data=s.data.extract i s.size from ByteArray.data_extract,Array.getElem?_extract];have:k<min s.size s.data.size-i:=by
   have:s.data.size=s.size:=rfl;omega
  grind
 ·rw[Array.getElem?_eq_none (show s.data.size<=i+k by have:s.data.size=s.size:=rfl;omega)];rw[Array.getElem?_eq_none (show(s.extract i s.size).data.size<=k by have:(s.extract i s.size).data.size=(s.extract i s.size).size:=rfl;rw[this,gS];omega)]
theorem TM(n a b c b3:Nat)(d:a<256):(Lib.decodeN n a b c b3).1<=1114111:=by
 unfold Lib.decodeN
 repeat' split
 all_goals omega
theorem ab6(s:ByteArray):(Lib.decodeGo s).1<=1114111:=by
 unfold Lib.decodeGo;split
 ·omega
 ·rw[Lib.decode_at];exact TM _ _ _ _ _ (UInt8.toNat_lt _)
theorem agq{s:ByteArray}{i:Nat}(h:i<s.size):cS s i=bif (Lib.decodeGo (s.extract i s.size)).1==65533&&(Lib.decodeGo (s.extract i s.size)).2==1 then none else some ((Lib.decodeGo (s.extract i s.size)).1,(Lib.decodeGo (s.extract i s.size)).2):=by
 have a:(s.extract i s.size).size=s.size-i:=by simp[*]
 have b:Lib.decodeGo (s.extract i s.size)=Lib.decodeN (s.size-i) (bt s i) (bt s (i+1)) (bt s (i+2)) (bt s (i+3)):=by
  unfold Lib.decodeGo;rw[if_neg ae,Lib.decode_at,a];simp only[G6,abo,Nat.sub_zero,Nat.add_zero,gT]
 unfold cS;simp[*]
theorem ab8(n a b c b3:Nat)(h:1<=n):(Lib.decodeN n a b c b3).2<=n/\1<=(Lib.decodeN n a b c b3).2:=by
 unfold Lib.decodeN
 repeat' split
 all_goals omega
theorem jO{s:ByteArray}{i c n:Nat}(h:cS s i=some (c,n)):i+n<=s.size/\1<=n/\c<=1114111:=by
 unfold cS at h;by_cases hi:i<s.size
 ·rw[bv hi,aU]at h;have a:=ab8 (s.size-i) (bt s i) (bt s (i+1)) (bt s (i+2)) (bt s (i+3)) ae;have b:=TM (s.size-i) (bt s i) (bt s (i+1)) (bt s (i+2)) (bt s (i+3)) (g0 s i);grind
 grind
structure xI where
 s:ByteArray
 i:Int
def hU(A B:Type):SK (A ⊕ B):=⟨A,B,Sum.inl,Sum.inr,fun y=>match y with| .inl a=>.inl ⟨a,rfl⟩| .inr b=>.inr ⟨b,rfl⟩⟩
def oA:aQ where
 X:=xI
 Y:=(Nat×Nat) ⊕ Unit
 args x:=[ai x.s,ad x.i]
 cond x:=0<=x.i
 aO _ F:=f1 F
 bZ x y:=match y with
  | .inl a=>cS x.s x.i.toNat=some (a.1,a.2)
  | .inr _=>cS x.s x.i.toNat=none
 val _ y:=match y with
  | .inl a=>.returned (.tuple #[.int .i64 a.1,.int .i64 a.2,.bool true])
  | .inr _=>.returned (.tuple #[.int .i64 0,.int .i64 0,.bool false])
 sum:=some (hU (Nat×Nat) Unit)
def IP(x:xI)(F:ah):=ar oA x F (ax (tuple ⟨[ad 0,ad 0,aj false]⟩)) [(0,F)]
def cP(F:ah):=aH [(0,F)] []
def O2(b:vw)(x:xI)(F:ah):=bM (↑(Lib.decodeGo b.s).fst:Int)/\ar oA x F (ax (tuple ⟨[ad (↑(Lib.decodeGo b.s).fst:Int),ad (↑(Lib.decodeGo b.s).snd:Int),aj true]⟩)) [(0,F)]
theorem ags(x:xI)(F:ah)(p:oA.cond x)(q:oA.aO x F):aS (x.i<0) (IP x F) (aS (x.i>=x.s.size) (IP x F) ((0<=x.i/\x.i<=x.s.size/\(x.s.size:Int)<=(x.s.size:Int))/\aC 67 GO/\true=true/\∃(b:vw),[ai (x.s.extract x.i.toNat (x.s.size:Int).toNat)]=[ai b.s]/\([]:List ah)=[]/\True/\f1 (cP F)/\∀(a:Unit),True->Br ((↑(Lib.decodeGo b.s).fst:Int)==65533) (Br ((↑(Lib.decodeGo b.s).snd:Int)==1) (IP x F) (O2 b x F)) (O2 b x F))):=by
 delta IP cP O2 aH bM ad ai aj aS ax;have l:0<=x.i:=p;have no:cS x.s x.i.toNat=none->ar oA x F (returned (tuple #[.int .i64 0,.int .i64 0,.bool false])) [(0,F)]:=fun e=>⟨.inr (),e,rfl,az [0]⟩;refine bo (fun h=>absurd h ae) (fun _=>bo (fun h=>no ?_) (fun h=>⟨⟨l,ae,cD _⟩,ab7,rfl,⟨x.s.extract x.i.toNat x.s.size⟩,rfl,rfl,ao,f1.rest (j:=0) aL q,fun _ _=>?_⟩))
 ·unfold cS;grind
 have k:=agq (s:=x.s) (i:=x.i.toNat) ae;have g:=ab6 (x.s.extract x.i.toNat x.s.size);revert k g;generalize Lib.decodeGo (x.s.extract x.i.toNat x.s.size)=d;obtain⟨c,n⟩:=d;intro k g;have f:cS x.s x.i.toNat=some (c,n)->ar oA x F (returned (tuple #[.int .i64 c,.int .i64 n,.bool true])) [(0,F)]:=fun e=>⟨.inl (c,n),e,rfl,az [0]⟩;refine aG (fun m=>aG (fun o=>no ?_) (fun o=>⟨aK,f ?_⟩)) (fun m=>⟨aK,f ?_⟩)
 all_goals grind
theorem Bl:aC 49 oA:=fo 33 Tryz.func49 (fun _ _=>[(3,3,aW GO)]) [] aY aY bA [] ags
end
section
open Go
def bW(l:List Nat):List Value:=l.map fun(n:Nat)=>int .u8 (n:Int)
theorem Cy(l:List Nat):(bW l).length=l.length:=by simp[bW]
theorem KF(a b:List Nat):bW (a++b)=bW a++bW b:=by simp[bW]
theorem Sb{l:List Nat}{u:Value}(h:u∈bW l):u.oneCell'=true:=by
 obtain⟨n,_,rfl⟩:=List.mem_map.1 h;rfl
theorem WR(u:Nat):(↑u:Int).fdiv (2^min (Int.toNat 8) i64.bits)=((u/256:Nat):Int):=by
 show(↑u:Int).fdiv (256:Int)=_;grind
theorem FC(u:Nat):u8.wrap (↑u:Int)=((u%256:Nat):Int):=by
 rfl
structure AF where
 r:Row
 l:List Nat
 u:Nat
def xr:aQ where
 X:=AF
 Y:=Row
 args x:=[au x.r.a x.r.n x.r.cap,ad x.u]
 pre x:=[x.r.A]
 cond x:=bz 5 1 (bW x.l) x.r/\x.u<65536/\x.r.n<=4194304
 bZ x y:=bz 5 1 (bW (x.l++[x.u/256,x.u%256])) y/\y.n=x.r.n+2
 val _ y:=ax (au y.a y.n y.cap)
 post _ y:=[y.A]
def kF(z:oZ):List Value:=[au z.r.a z.r.n z.r.cap,au z.a z.m z.c]
def T3(c:Oper)(aa:List Value)(pp:List ah)(rr:ah)(b:oZ->Row->Prop):=e5 Tryz.prog c (de (5:TypeId) 1 1)/\true=true/\∃(z:oZ),aa=(kF z)/\pp=[z.r.A]/\(bz 5 1 z.cs z.r/\z.ys.length=z.m*1/\(∀(w0:Value),w0∈z.ys->w0.oneCell'=true)/\(z.r.n+z.m)*1<=140737488355328/\z.r.n+z.m<=9223372036854775807/\(z.a=none->z.m=0/\z.c=0))/\(∀(w0:Addr),z.a=some w0->c4 rr w0 z.ys)/\∀(a:Row),bz 5 1 (z.cs++z.ys) a/\a.n=z.r.n+z.m/\(z.m=0->a=z.r)->b z a
def bI(c:Nat):Option Addr:=some ⟨c,0,none⟩
def PS(x:AF):List Value:=[a8 ((x.u:Int).fdiv ((2:Int)^min (Int.toNat (8:Int)) i64.bits)),a8 (u8.wrap (x.u:Int))]
def kE(a:Row):=au a.a a.n a.cap
theorem akA(x:AF)(F:ah)(k:xr.cond x)(m:xr.aO x F):(0<=(x.u:Int).fdiv ((2:Int)^min (Int.toNat (8:Int)) i64.bits)/\(x.u:Int).fdiv ((2:Int)^min (Int.toNat (8:Int)) i64.bits)<=255)/\∀(c:Nat),T3 (ba Tryz.f103 1 7) [au x.r.a x.r.n x.r.cap,au (bI c) 2 2] [x.r.A] (aH [(0,x.r.A),(1,F),(2060,af c (PS x) 5)] [0]) (fun b a=>ar xr x F (ax (kE a)) [(0,a.A),(1,F),(2060,af c (PS x) 5)]):=by
 delta kF T3 bI PS kE aH a8 au af ax;obtain⟨d,n,hn⟩:=k;have e1:(↑x.u:Int).fdiv (2^min (Int.toNat 8) i64.bits)=((x.u/256:Nat):Int):=WR x.u;have e:u8.wrap (↑x.u:Int)=((x.u%256:Nat):Int):=FC x.u;rw[e1,e];refine⟨aK,fun b=>br (jE (P:=Tryz.prog) 1 1 rfl rfl rfl rfl rfl rfl rfl (by decide)) ⟨x.r,bW x.l,some ⟨b,0,none⟩,2,2,bW [x.u/256,x.u%256]⟩ ⟨d,rfl,fun _ h=>Sb h,by grind,by grind,aL⟩ (?_) (?_)⟩
 ·intro a i;cases i;exact c4.rest (j:=2060) aL (c4.cells (fun j u l=>by rw[gT];exact l))
 ·rintro y ⟨f,g,-⟩;exact⟨y,⟨by rw[KF];exact f,g⟩,rfl,az [0,1]⟩
theorem Sd:aC 103 xr:=fo 13 Tryz.func103 (fun _ _=>[(1,5,aX),(1,6,.n 2060),(1,7,dV (de 5 1 1))]) [] aY aY bA [] akA
structure KU where
 a:Option Addr
 n:Nat
 cap:Nat
 l:List Nat
def yd:aQ where
 X:=KU
 args x:=[au x.a x.n x.cap]
 cond x:=jd 1 (bW x.l) x.a x.n
 aO x F:=lq F x.a (bW x.l)
 val x _:=ax (ai (cL x.l))
theorem adj:∀(l:List Nat)(ea:List UInt8),(l.map fun(n:Nat)=>(n:Int)).foldl (fun(r:ByteArray)(n:Int)=>r.push (UInt8.ofNat n.toNat)) ⟨⟨ea⟩⟩=⟨⟨ea++l.map fun n=>UInt8.ofNat n⟩⟩:=by
 intro l
 induction l with
 |nil=>intro ea;simp
 |cons n l a=>
  simp[*]
theorem GI{P:Program}{o:Oper}{src dst e:TypeId}{x:Operand}(z:o.op= .convert src dst x)(hs:P.underlying src=some (.slice e))(B:P.underlying e=some (.int .u8))(hd:P.underlying dst=some .string):e5 P o yd:=by
 refine⟨fun y F I w ρ A q t d=>?_⟩;obtain⟨a,n,cap,l⟩:=y;have q:jd 1 (bW l) a n:=q;have t:lq F a (bW l):=t;simp only[z,Op.operands,yd]at A;have r:ρ x= .slice a n cap:=by grind
 have p:(Conv.bytesToString (.slice a n cap)).run P w= .ok (.string (cL l)) w:=by
  have c:=q.len;rw[Cy]at c;cases m:a with
  |none=>
   subst m;cases q with
   |nil h=>
    have:l=[]:=by cases l with|nil=>rfl|cons a l=>simp[bW]at h
    subst this;rfl
  |some g=>
   subst m;have f:∀i u,(bW l)[i]?=some u->w.cell? (g.add i)=some u:=fun i u hi=>d.v_ (t g rfl i u hi);have hl:=run_loadCells_list (P:=P) w g (bW l) (fun j v C=>f j v C);rw[Cy,c,Nat.mul_one]at hl;have s:(loadCells g n).run P w= .ok ((l.map fun(k:Nat)=>(k:Int)).map (int .u8)).toArray w:=by
    rw[hl];simp[bW,Function.comp_def]
   rw[run_bytesToString w g n cap _ s];have:=adj l [];rw[List.nil_append]at this;exact congrArg (fun b=>Result.ok (string b) w) this
 refine⟨(),I,w,.string (cL l),ao,.inl ?_,rfl,a_.le_refl I,d,cv.refl w⟩;simp only[execOp,z,r];show((convert src dst (.slice a n cap))>>=fun v=>(pure (Next.value v):Sem Next)).run P w=_;rw[Sem.run_bind,run_convert_bytes_string w src dst e a n cap hs B hd,p];rfl
theorem aaB{d:Nat}(h:d<2^63):i64.wrap (↑(BitVec.ofInt i64.bits (d:Int)&&& BitVec.ofInt i64.bits 1023).toNat:Int)=((d%1024:Nat):Int):=by
 show i64.wrap (↑((BitVec.ofNat 64 d&&& BitVec.ofNat 64 1023:BitVec 64).toNat):Int)=_;have:(BitVec.ofNat 64 d&&& BitVec.ofNat 64 1023).toNat=d%1024:=by
  rw[BitVec.toNat_and,BitVec.toNat_ofNat,BitVec.toNat_ofNat];have a:d%2^64=d:=Nat.mod_eq_of_lt ae;rw[a];exact Nat.and_two_pow_sub_one_eq_mod d 10
 rw[this];exact dz (i:=.i64) aK
theorem ab9(n a b c b3:Nat)(h:a<256):(Lib.decodeN n a b c b3).1>65535->4<=(Lib.decodeN n a b c b3).2:=by
 unfold Lib.decodeN
 repeat' split
 all_goals omega
theorem agt{s:ByteArray}{i c n:Nat}(h:cS s i=some (c,n))(b:c>65535):4<=n:=by
 unfold cS at h;by_cases hi:i<s.size
 ·rw[bv hi,aU]at h;have a:=ab9 (s.size-i) (bt s i) (bt s (i+1)) (bt s (i+2)) (bt s (i+3)) (g0 s i);grind
 grind
structure e8 where
 s:ByteArray
def zX:aQ where
 X:=e8
 Y:=Int×Int
 args x:=[ai x.s]
 cond x:=x.s.size<=1048576
 aO _ F:=f1 F
 val x y:=.returned (.tuple #[.string (bx x.s),.int .i64 y.1,.int .i64 y.2])
structure AH where
 r:Row
 o:List Nat
 i:Nat
 f:Nat
def ak0(x:e8)(F:ah):Nat->Option Inv:=fun
 |0=>some {X:=AH,P:=fun d=>bz 5 1 (bW d.o) d.r/\d.i<=x.s.size/\d.r.n<=2*d.i/\x.s.size<d.i+d.f/\lV x.s (x.s.size+1) 0 []=lV x.s d.f d.i d.o,mu:=fun d=>x.s.size-d.i,lv:=fun d=>[(0,ai x.s),(5,au d.r.a d.r.n d.r.cap),(6,ad d.i)],st:=fun d=>[d.r.A,F]}
 |_=>none
def T4(b:Oper)(aa:List Value)(a:FM->Nat->Prop):=e5 Tryz.prog b (uw (5:TypeId) [a8 0] 1)/\true=true/\∃(z:FM),aa=[ad z.n,ad z.c]/\([]:List ah)=[]/\(0<=z.n/\z.n<=z.c/\z.c*(↑(1:Nat):Int)<=281474976710656/\z.c<=9223372036854775807)/\True/\∀(c:Nat),True->a z c
def Ig(z:AH)(e0:e8):=bz 5 1 (bW z.o) z.r/\z.i<=e0.s.size/\z.r.n<=2*z.i/\e0.s.size<z.i+z.f/\lV e0.s (e0.s.size+1) 0 []=lV e0.s z.f z.i z.o
def T5(aa:List Value)(rr:ah)(b:xI->Nat×Nat->Prop)(c:xI->Unit->Prop):=aC 49 oA/\true=true/\∃(z:xI),aa=[ai z.s,ad z.i]/\([]:List ah)=[]/\0<=z.i/\f1 rr/\(∀(a:Nat×Nat),cS z.s z.i.toNat=some (a.fst,a.snd)->b z a)/\∀(d:Unit),cS z.s z.i.toNat=none->c z d
def T6(aa:List Value)(pp:List ah)(b:AF->Row->Prop):=aC 103 xr/\true=true/\∃(z:AF),aa=[au z.r.a z.r.n z.r.cap,ad ↑z.u]/\pp=[z.r.A]/\(bz 5 1 (bW z.l) z.r/\z.u<65536/\z.r.n<=4194304)/\True/\∀(a:Row),bz 5 1 (bW (z.l++[z.u/256,z.u%256])) a/\a.n=z.r.n+2->b z a
def T7(e0:e8)(e1:ah)(v0 v1:Value)(a:St)(mm:Nat):=∃(z:AH),Ig z e0/\(ai e0.s=ai e0.s/\v0=au z.r.a z.r.n z.r.cap/\v1=ad ↑z.i/\True)/\aE a [(0,z.r.A),(1,e1)]/\e0.s.size-z.i<mm
def QA(i:AH)(f:Nat×Nat)(x:e8)(F:ah):AF->Row->Prop:=fun c b=>bM ((i.i:Int)+(f.snd:Int))/\T7 x F (kE b) (ad ((i.i:Int)+(f.snd:Int))) [(0,b.A),(1,F)] (x.s.size-i.i)
def T8(b:Oper)(aa:List Value)(rr:ah)(a:KU->Unit->Prop):=e5 Tryz.prog b yd/\true=true/\∃(z:KU),aa=[au z.a z.n z.cap]/\([]:List ah)=[]/\jd 1 (bW z.l) z.a z.n/\lq rr z.a (bW z.l)/\∀(c:Unit),True->a z c
theorem ak1(x:e8)(F:ah)(s:zX.cond x)(E:zX.aO x F):bM (2*(x.s.size:Int))/\T4 (ba Tryz.f88 1 3) [ad 0,ad (2*(x.s.size:Int))] (fun k j=>(∃(a:AH),Ig a x/\(ai x.s=ai x.s/\au (bI j) k.n.toNat k.c.toNat=au a.r.a a.r.n a.r.cap/\ad 0=ad ↑a.i/\True)/\aE [(0,F),(1,af j (ik [a8 0] k.c.toNat) 5)] [(0,a.r.A),(1,F)])/\aT fun(i:AH)_=>Ig i x->aS ((i.i:Int)<(x.s.size:Int)) (T5 [ai x.s,ad ↑i.i] (aH [(0,i.r.A),(1,F)] []) (fun g f=>aS ((f.fst:Int)>65535) (((-9223372036854775808:Int)<=(f.fst:Int)-65536/\(f.fst:Int)-65536<=(9223372036854775807:Int))/\bM (55296+((f.fst:Int)-65536).fdiv ((2:Int)^min (Int.toNat (10:Int)) i64.bits))/\T6 [au i.r.a i.r.n i.r.cap,ad (55296+((f.fst:Int)-65536).fdiv ((2:Int)^min (Int.toNat (10:Int)) i64.bits))] [i.r.A] (fun e d=>bM (56320+bU (↑(gQ ((f.fst:Int)-65536)&&& gQ (1023:Int)).toNat:Int))/\T6 [au d.a d.n d.cap,ad (56320+bU (↑(gQ ((f.fst:Int)-65536)&&& gQ (1023:Int)).toNat:Int))] [d.A] (QA i f x F))) (T6 [au i.r.a i.r.n i.r.cap,ad ↑f.fst] [i.r.A] (QA i f x F))) (fun g a=>ar zX x F (ax (tuple ⟨[ai ⟨#[]⟩,ad ↑i.i,ad 10]⟩)) [(0,i.r.A),(1,F)])) (T8 (ba Tryz.f88 12 1) [au i.r.a i.r.n i.r.cap] (aH [(0,i.r.A),(1,F)] []) (fun b a=>ar zX x F (ax (tuple ⟨[ai (cL b.l),ad 0,ad 0]⟩)) [(0,i.r.A),(1,F)]))):=by
 delta T4 Ig bI T5 T6 T7 kE QA T8 aH bM ad a8 ai au af gQ bU aS ax aT;have hs:x.s.size<=1048576:=s;refine⟨aK,DS (P:=Tryz.prog) [.int .u8 0] 1 rfl rfl rfl rfl rfl rfl aL rfl,rfl,⟨0,2*x.s.size⟩,rfl,rfl,⟨cD 0,by grind,by grind,by grind⟩,ao,fun b _=>⟨⟨⟨⟨some ⟨b,0,none⟩,0,(2*(x.s.size:Int)).toNat,.cells b (ik [.int .u8 0] (2*(x.s.size:Int)).toNat) 5⟩,[],0,x.s.size+1⟩,⟨.fO b 0 _ (ik [.int .u8 0] _) rfl (by rw[eS,Sl];simp[bW]) (df _),df _,df _,by simp[*],rfl⟩,aV,az [1,0]⟩,?_⟩⟩;rintro⟨r,o,i,f⟩ I ⟨p,z,A,B,q⟩;dsimp only at p z A B q⊢;refine bo (fun D=>br Bl ⟨x.s,i⟩ (by simp[*]) (f1.rest (j:=1) aL E) ⟨?_,?_⟩) (fun C=>br (GI rfl rfl rfl rfl) ⟨r.a,r.n,r.cap,o⟩ p.src (RM 0 aL rfl p) fun _ _=>⟨(0,0),ao,?_,az [1]⟩)
 ·rintro⟨c,n⟩ l;have l:cS x.s (i:Int).toNat=some (c,n):=l;rw[cw]at l;obtain⟨t,f2,f3⟩:=jO l;obtain⟨m,rfl⟩:∃m,f=m+1:=⟨f-1,ae⟩;have step:lV x.s (m+1) i o=lV x.s m (i+n) (o++ii c):=by
   rw[lV,bv (show i<x.s.size by omega),aU,l]
  dsimp only;refine bo (fun s=>?_) (fun s=>?_)
  ·have e1:55296+((↑c:Int)-65536).fdiv (2^min (Int.toNat 10) i64.bits)=((55296+(c-65536)/1024:Nat):Int):=by
    have:(↑c:Int)-65536=((c-65536:Nat):Int):=ae;rw[this];show 55296+((c-65536:Nat):Int).fdiv (1024:Int)=_;rw[Int.fdiv_eq_ediv_of_nonneg _ ae];omega
   have v:56320+i64.wrap (↑(BitVec.ofInt i64.bits ((↑c:Int)-65536)&&& BitVec.ofInt i64.bits 1023).toNat:Int)=((56320+(c-65536)%1024:Nat):Int):=by
    have:(↑c:Int)-65536=((c-65536:Nat):Int):=ae;rw[this,aaB ae];omega
   rw[e1,v];have w:ii c=[(55296+(c-65536)/1024)/256,(55296+(c-65536)/1024)%256]++[(56320+(c-65536)%1024)/256,(56320+(c-65536)%1024)%256]:=by
    unfold ii;grind
   refine⟨aK,aK,Sd,rfl,⟨r,o,55296+(c-65536)/1024⟩,rfl,rfl,⟨p,by grind,by grind⟩,ao,fun y u=>⟨aK,Sd,rfl,⟨y,_,56320+(c-65536)%1024⟩,rfl,rfl,⟨u.1,bg,by grind⟩,ao,fun H G=>⟨aK,⟨H,o++ii c,i+n,m⟩,⟨?_,t,?_,by grind,q.trans step⟩,⟨rfl,rfl,by rfl,ao⟩,az [0,1],by grind⟩⟩⟩
   ·grind
   ·have J:c>65535->4<=n:=fun h=>agt l h;grind
  ·have w:ii c=[c/256,c%256]:=by
    unfold ii;grind
   refine bO Sd ⟨r,o,c⟩ ⟨p,by grind,by grind⟩ fun y u=>⟨aK,⟨y,o++ii c,i+n,m⟩,⟨by simp[*],t,by grind,by grind,q.trans step⟩,⟨rfl,rfl,by rfl,ao⟩,az [0,1],by grind⟩
 ·intro _ l;have l:cS x.s (i:Int).toNat=none:=l;rw[cw]at l;obtain⟨m,rfl⟩:∃m,f=m+1:=⟨f-1,ae⟩;refine⟨(i,10),ao,?_,az [1]⟩;have:bx x.s=⟨#[]⟩:=by
   unfold bx;rw[q,lV,bv (show i<x.s.size by omega),aU,l];rfl
  show returned _=returned (.tuple #[.string (bx x.s),_,_]);rw[this]
 ·have:bx x.s=cL o:=by
   unfold bx;rw[q];cases f with
   |zero=>rfl
   |succ f=>rw[lV,bF (show ¬i<x.s.size by omega)];rfl
  show returned _=returned (.tuple #[.string (bx x.s),_,_]);rw[this]
theorem Xt:aC 88 zX:=fo 49 Tryz.func88 (fun _ _=>[(1,3,.o (uw 5 [.int .u8 0] 1) [] [1]),(4,2,aW oA),(9,4,bu xr),(9,8,bu xr),(10,2,bu xr),(12,1,.o yd [] [])]) [] ak0 aY bA [] ak1
end
section
open Go
def wC:aQ where
 X:=e8
 args x:=[ai x.s]
 cond x:=x.s.size<=1048576
 aO _ F:=f1 F
 val x _:=ax (ai (bx x.s))
def Xs(b:e8)(a:ah):List (Nat×Nat×OH):=[(1,1,aW zX)]
def T9(aa:List Value)(rr:ah)(a:e8->Int×Int->Prop):=aC 88 zX/\true=true/\∃(z:e8),aa=[ai z.s]/\([]:List ah)=[]/\z.s.size<=1048576/\f1 rr/\∀(b:Int×Int),True->a z b
theorem ak6(x:e8)(F:ah)(c:wC.cond x)(d:wC.aO x F):T9 [ai x.s] (cP F) (fun b a=>ar wC x F (ax (ai (bx b.s))) [(0,F)]):=by
 delta T9 cP aH ai ax;exact br Xt x c (f1.rest (j:=0) aL d) fun _ _=>im
theorem KK:aC 73 wC:=fo 13 Tryz.func73 Xs [] aY aY bA [] ak6
theorem alf(x:e8)(F:ah)(c:wC.cond x)(d:wC.aO x F):T9 [ai x.s] (cP F) (fun b a=>ar wC x F (ax (ai (bx b.s))) [(0,F)]):=by
 delta T9 cP aH ai ax;exact br Xt x c (f1.rest (j:=0) aL d) fun _ _=>im
theorem Si:aC 121 wC:=fo 13 Tryz.func121 Xs [] aY aY bA [] alf
structure Gl(F:ah):Prop where
 oS:f1 F
 mx:∃m,aP F ⟨4,0,none⟩ (.int .i64 m)
 Hs:∀i m,eV[i]?=some m->aP F ⟨2,i,none⟩ (.string m)
theorem Gl.sub{A B:ah}(h:Gl A)(hs:Sub A B):Gl B:=⟨h.oS.sub hs,let ⟨m,a⟩:=h.mx;⟨m,a.sub hs⟩,fun i m a=>(h.Hs i m a).sub hs⟩
theorem Gl.rest{S:St}{bG:List Nat}{j:Nat}(a:j∉bG)(h:Gl (gt S j)):Gl (.dq (rest S bG)):=⟨h.oS.rest a,let ⟨m,b⟩:=h.mx;⟨m,b.rest a⟩,fun i m b=>(h.Hs i m b).rest a⟩
structure gq where
 a:ByteArray
 b:ByteArray
def jm(s p:ByteArray):Bool:=decide (s.size>=p.size)&&(s.extract 0 p.size).toList==p.toList
def nF:aQ where
 X:=gq
 args x:=[ai x.a,ai x.b]
 val x _:=ax (aj (jm x.a x.b))
theorem aeb(x:gq)(F:ah)(a:nF.cond x)(b:nF.aO x F):aS ((x.a.size:Int)>=(x.b.size:Int)) (((0:Int)<=(0:Int)/\0<=(x.b.size:Int)/\(x.b.size:Int)<=(x.a.size:Int))/\ar nF x F (ax (aj ((x.a.extract (Int.toNat (0:Int)) (x.b.size:Int).toNat).toList==x.b.toList))) [(0,F)]) (ar nF x F cV [(0,F)]):=by
 delta c6 cV aj aS ax;have e0:(↑x.b.size:Int).toNat=x.b.size:=cw _;refine bo (fun h=>⟨⟨ae,ae,ae⟩,(),ao,kG ?_,az [0]⟩) (fun h=>⟨(),ao,kG ?_,az [0]⟩)
 ·unfold jm;grind
 ·unfold jm;grind
theorem aea:aC 68 nF:=fo 18 Tryz.func68 (fun _ _=>[]) [] aY aY bA [] aeb
def tY(a:FuncId)(aa:List Value)(b:gq->Unit->Prop):=aC a nF/\true=true/\∃(z:gq),aa=[ai z.a,ai z.b]/\([]:List ah)=[]/\True/\True/\∀(c:Unit),True->b z c
theorem ad_(x:gq)(F:ah)(c:nF.cond x)(d:nF.aO x F):tY 68 [ai x.a,ai x.b] (fun b a=>ar nF x F (ax (aj (jm b.a b.b))) [(0,F)]):=by
 delta tY ai aj ax;exact kV aea x fun _ _=>im
theorem DJ:aC 50 nF:=fo 8 Tryz.func50 (fun _ _=>[(1,2,aW nF)]) [] aY aY bA [] ad_
def Hi:aQ where
 X:=gq
 args x:=[ai x.a,ai x.b]
 cond x:=x.a.size<=1048576
 aO _ F:=Gl F
 val x _:=ax (ad (Lib.index x.a.data.toList x.b.data.toList))
theorem RowKit.Below.of_eq{B:Nat}{w w':World}(h:w'=w):RowKit.Below B w w':=h▸RowKit.Below.refl B w
theorem aeN:aC 52 Hi:=qU Hi (fun _=>rfl) (fun _ _=>()) (fun _ _=>ao) (fun _ _=>rfl) fun x F I w a c hs=>by
 obtain⟨m,b⟩:=c.mx;have a:x.a.size<=1048576:=a;exact(Go.Proofs.Tryz.strings_Index x.a x.b m w ae (hs.v_ b)).mono fun e w' h=>⟨h.1,RowKit.Below.of_eq h.2⟩
def Dw:aQ where
 X:=gq
 args x:=[ai x.a,ai x.b]
 cond x:=x.a.size<=1048576
 aO _ F:=Gl F
 val x _:=ax (aj (Lib.contains x.a.data.toList x.b.data.toList))
theorem TG:aC 70 Dw:=qU Dw (fun _=>rfl) (fun _ _=>()) (fun _ _=>ao) (fun _ _=>rfl) fun x F I w a c hs=>by
 obtain⟨m,b⟩:=c.mx;have a:x.a.size<=1048576:=a;exact(Go.Proofs.Tryz.strings_Contains x.a x.b m w ae (hs.v_ b)).mono fun e w' h=>⟨h.1,RowKit.Below.of_eq h.2⟩
variable{c:Nat}
theorem yL(h:c=10\/c=13\/c=8232\/c=8233):hL c=true:=by rcases h with rfl|rfl|rfl|rfl <;> rfl
theorem Hw(e1:((c:Int)==10)=false)(a:((c:Int)==13)=false)(b:((c:Int)==8232)=false)(d:((c:Int)==8233)=false):hL c=false:=by
 have e1:=dU.1 e1;have a:=dU.1 a;have b:=dU.1 b;have d:=dU.1 d;unfold hL;grind
structure qZ where
 l:cC
 s:ByteArray
structure e6 where
 i:Nat
 f:Nat
 aD:Bool
def uP(x:qZ):Option Addr:=some ⟨x.l.b,0,none⟩
def EI(x:qZ):List Value:=[ai x.l.src,ad x.l.i,aj x.l.aD,au x.l.oa x.l.on x.l.oc]
def tw:aQ where
 X:=qZ
 args x:=[ag (uP x),ai x.s]
 pre x:=[af x.l.b (EI x) 68]
 cond x:=x.s.size<=1048576
 aO _ F:=Gl F
 val x _:=ax (aj (eL x.s (x.s.size+1) 0 x.l.aD).1)
 post x _:=[af x.l.b [ai x.l.src,ad x.l.i,aj (eL x.s (x.s.size+1) 0 x.l.aD).2,au x.l.oa x.l.on x.l.oc] 68]
def Rz(x:qZ)(d:e6):List Value:=[ai x.l.src,ad x.l.i,aj d.aD,au x.l.oa x.l.on x.l.oc]
def aiW(x:qZ)(F:ah):Nat->Option Inv:=fun
 |0=>some {X:=e6,P:=fun d=>d.i<=x.s.size/\x.s.size<d.i+d.f/\eL x.s (x.s.size+1) 0 x.l.aD=eL x.s d.f d.i d.aD,mu:=fun d=>x.s.size-d.i,lv:=fun d=>[(0,ag (uP x)),(1,ai x.s),(5,ad d.i)],st:=fun d=>[af x.l.b (Rz x d) 68,F]}
 |_=>none
def IG(z:e6)(e0:qZ):=z.i<=e0.s.size/\e0.s.size<z.i+z.f/\eL e0.s (e0.s.size+1) 0 e0.l.aD=eL e0.s z.f z.i z.aD
def y6(e0:qZ)(z:e6)(e1:ah):=[(0,af e0.l.b (Rz e0 z) 68),(1,e1)]
def Li(e0:qZ)(e1:ah)(v0:Value)(a:St)(mm:Nat):=∃(z:e6),IG z e0/\(ag (uP e0)=ag (uP e0)/\ai e0.s=ai e0.s/\v0=ad ↑z.i/\True)/\aE a (y6 e0 z e1)/\e0.s.size-z.i<mm
def E6(x:qZ)(e:e6)(b:Nat×Nat)(F:ah):=aw x.l.b 2/\bM ((e.i:Int)+(b.snd:Int))/\Li x F (ad ((e.i:Int)+(b.snd:Int))) [(0,af x.l.b [ai x.l.src,ad x.l.i,aj true,au x.l.oa x.l.on x.l.oc] 68),(1,F)] (x.s.size-e.i)
theorem aiY(x:qZ)(F:ah)(r:tw.cond x)(u:tw.aO x F):(∃(a:e6),IG a x/\(ag (uP x)=ag (uP x)/\ai x.s=ai x.s/\ad 0=ad ↑a.i/\True)/\aE [(0,af x.l.b (EI x) 68),(1,F)] (y6 x a F))/\aT fun(e:e6)_=>IG e x->aS ((e.i:Int)<(x.s.size:Int)) (T5 [ai x.s,ad ↑e.i] (aH (y6 x e F) []) (fun c b=>Br ((b.fst:Int)==10) (E6 x e b F) (Br ((b.fst:Int)==13) (E6 x e b F) (Br ((b.fst:Int)==8232) (E6 x e b F) (Br ((b.fst:Int)==8233) (E6 x e b F) (bM ((e.i:Int)+(b.snd:Int))/\Li x F (ad ((e.i:Int)+(b.snd:Int))) (y6 x e F) (x.s.size-e.i)))))) (fun c a=>ar tw x F cV (y6 x e F))) (ar tw x F fm (y6 x e F)):=by
 delta IG uP EI Rz y6 T5 Li E6 c6 cV fm aH aw bM ad ai aj ag au af aS ax aT;have hs:x.s.size<=1048576:=r;refine⟨⟨⟨0,x.s.size+1,x.l.aD⟩,⟨df _,by simp[*],rfl⟩,aV,az [0,1]⟩,?_⟩;rintro⟨i,f,aD⟩ v ⟨p,q,h⟩;dsimp only at p q h⊢;obtain⟨g,rfl⟩:∃g,f=g+1:=⟨f-1,ae⟩;refine bo (fun t=>br Bl ⟨x.s,i⟩ (by simp[*]) (f1.rest (j:=1) aL u.oS) ⟨?_,?_⟩) (fun s=>⟨(),ao,kG ?_,?_⟩)
 ·rintro⟨c,n⟩ d;have d:cS x.s (i:Int).toNat=some (c,n):=d;rw[cw]at d;obtain⟨k,f2,f3⟩:=jO d;have step:eL x.s (g+1) i aD=eL x.s g (i+n) (aD||hL c):=by
   rw[eL,bv (show i<x.s.size by omega),aU,d]
  dsimp only;refine aG (fun e=>?_) (fun e1=>aG (fun e=>?_) (fun l=>aG (fun e=>?_) (fun m=>aG (fun e=>?_) (fun o=>?_))))
  case refine_5=>
   have hn:hL c=false:=Hw e1 l m o;exact⟨aK,⟨i+n,g,aD⟩,⟨k,by grind,h.trans (by simp[*])⟩,⟨rfl,rfl,by rfl,ao⟩,az [0,1],by grind⟩
  all_goals
   have hn:hL c=true:=yL (by grind);exact⟨aq,aK,⟨i+n,g,true⟩,⟨k,by grind,h.trans (by simp[*])⟩,⟨rfl,rfl,by rfl,ao⟩,az [0,1],by grind⟩
 ·intro _ d;have d:cS x.s (i:Int).toNat=none:=d;rw[cw]at d;have e:eL x.s (x.s.size+1) 0 x.l.aD=(false,aD):=by
   rw[h,eL,bv (show i<x.s.size by omega),aU,d]
  exact⟨(),ao,kG (by rw[e]),aE.pick [0,1] rfl (by rw[show tw.post x ()=_ from rfl];simp only[tw,e];rfl)⟩
 ·rw[h,eL,bF (show ¬i<x.s.size by omega)];rfl
 ·have e:eL x.s (x.s.size+1) 0 x.l.aD=(true,aD):=by
   rw[h,eL,bF (show ¬i<x.s.size by omega)];rfl
  exact aE.pick [0,1] rfl (by simp only[tw,e];rfl)
theorem aiX:aC 53 tw:=fo 42 Tryz.func53 (fun _ _=>[(3,2,aW oA)]) [(7,3,.w [LH.z00 (0:Nat)])] aiW aY bA [] aiY
end
section
open Go
theorem UN(s:ByteArray)(i:Nat)(t:List Nat)(m:∀b∈t,b<256)(hi:i<=s.size):cY s i t=(t.map fun n=>UInt8.ofNat n).isPrefixOf (s.data.toList.drop i):=by
 rw[Bool.eq_iff_iff,List.isPrefixOf_iff_prefix,List.prefix_iff_getElem?];unfold cY;rw[gx,decide_eq_true_eq,List.all_eq_true];have j:s.data.toList.length=s.size:=aL;constructor
 ·rintro⟨l,e⟩ k hk;have a:k<t.length:=by grind
  have:=e k (List.mem_range.2 a);rw[beq_iff_eq]at this;have c:i+k<s.data.toList.length:=ae;rw[List.getElem?_drop,gy c];congr 1;simp only[List.getElem_map];have g:bt s (i+k)=(s.data.toList[i+k]).toNat:=by
   unfold bt;grind
  rw[g,fg,gy a]at this;have f:s.data.toList[i+k].toNat=t[k]:=this;rw[<-f,UInt8.ofNat_toNat]
 ·intro h;have key:∀k(hk:k<t.length),i+k<s.size/\bt s (i+k)=t[k]:=by
   intro k hk;have:=h k (by simp[*]);rw[List.getElem?_drop]at this;simp only[List.getElem_map]at this;have c:i+k<s.data.toList.length:=by
    grind
   refine⟨ae,?_⟩;unfold bt;rw[<-Array.getElem?_toList,this];simp[*]
  refine⟨?_,fun k hk=>?_⟩
  ·rcases Nat.eq_zero_or_pos t.length with d|d
   ·omega
   ·have:=(key (t.length-1) ae).1;omega
  grind
theorem ad9(s p:ByteArray):jm s p=p.data.toList.isPrefixOf s.data.toList:=by
 unfold jm;rw[Bool.eq_iff_iff,List.isPrefixOf_iff_prefix,gx,decide_eq_true_eq,beq_iff_eq];have hs:s.data.toList.length=s.size:=aL;have hp:p.data.toList.length=p.size:=aL;have e:(s.extract 0 p.size).toList=s.data.toList.take p.size:=by rw[ByteArray.toList_eq];simp
 rw[e,ByteArray.toList_eq,List.prefix_iff_eq_take,hp];grind
theorem DC(s:ByteArray)(i:Nat):(s.extract i s.size).data.toList=s.data.toList.drop i:=by
 rw[ByteArray.data_extract];have:s.data.size=s.size:=rfl;simp only[Array.toList_extract,List.extract_eq_take_drop];exact List.take_of_length_le aL
theorem Nz{s:ByteArray}{i:Nat}{t:List Nat}(a:∀b∈t,b<256)(hi:i<=s.size):jm (s.extract i s.size) (cL t)=cY s i t:=by
 rw[ad9,UN s i t a hi,DC];rfl
theorem index_ge(l sub:List UInt8): -1<=Lib.index l sub:=by
 induction l with
 |nil=>unfold Lib.index;split <;> omega
 |cons b l a=>unfold Lib.index;split;omega;split <;> omega
theorem aer(s:ByteArray)(t:List Nat)(g:∀b∈t,b<256):∀(f i:Nat),s.size<i+f->i<=s.size->
  nG s t f i=if Lib.index (s.data.toList.drop i) (t.map fun n=>UInt8.ofNat n)= -1 then none else some (i+(Lib.index (s.data.toList.drop i) (t.map fun n=>UInt8.ofNat n)).toNat):=by
 intro f
 induction f with
 |zero=>intro i d c;omega
 |succ f h=>
  intro i d c;have hs:s.data.toList.length=s.size:=aL;rw[nG,UN s i t g c];by_cases a:i<s.size
  ·have hd:s.data.toList.drop i=s.data.toList[i]'(ae)::s.data.toList.drop (i+1):=List.drop_eq_getElem_cons ae;rw[hd,bv a];unfold Lib.index;cases hp:(t.map fun n=>UInt8.ofNat n).isPrefixOf (s.data.toList[i]'(ae)::s.data.toList.drop (i+1))with
   |true=>simp
   |false=>
    rw[aM,aU,h (i+1) ae ae];have e:=index_ge (s.data.toList.drop (i+1)) (t.map fun n=>UInt8.ofNat n);generalize Lib.index (s.data.toList.drop (i+1)) (t.map fun n=>UInt8.ofNat n)=q at*;by_cases j:q= -1
    all_goals grind
  ·have hd:s.data.toList.drop i=[]:=List.drop_eq_nil_of_le ae;rw[hd,bF a];unfold Lib.index;grind
theorem aez(l sub:List UInt8):Lib.index l sub+sub.length<=l.length\/Lib.index l sub= -1:=by
 induction l with
 |nil=>
  unfold Lib.index;grind
 |cons b l a=>
  unfold Lib.index;grind
variable{c:Nat}
theorem aj0(h:c=9\/c=11\/c=12\/c=32\/c=160\/c=65279):rE c=true:=by rcases h with rfl|rfl|rfl|rfl|rfl|rfl <;> rfl
theorem ajX(e1:((c:Int)==9)=false)(a:((c:Int)==11)=false)(b:((c:Int)==12)=false)(d:((c:Int)==32)=false)(e:((c:Int)==160)=false)(f:((c:Int)==65279)=false):rE c=false:=by
 have e1:=dU.1 e1;have a:=dU.1 a;have b:=dU.1 b;have d:=dU.1 d;have e:=dU.1 e;have f:=dU.1 f;unfold rE;rw[dU.2 (show c≠9 by omega),dU.2 (show c≠11 by omega),dU.2 (show c≠12 by omega),dU.2 (show c≠32 by omega),dU.2 (show c≠160 by omega),dU.2 (show c≠65279 by omega)];rfl
end
section
open Go
theorem aiO(s:ByteArray):∀(f g i:Nat)(aD:Bool),s.size<i+f->s.size<i+g->eL s f i aD=eL s g i aD:=by
 intro f
 induction f with
 |zero=>
  intro g i aD a b;cases g with
  |zero=>rfl
  |succ g=>rw[eL,eL,bF (show ¬i<s.size by omega)];rfl
 |succ f d=>
  intro g i aD a b;cases g with
  |zero=>rw[eL,eL,bF (show ¬i<s.size by omega)];rfl
  |succ g=>
   rw[eL,eL];by_cases hi:i<s.size
   ·rw[bv hi,aU,aU];cases hn:cS s i with
    |none=>rfl
    |some p=>
     obtain⟨c,n⟩:=p;have:=jO hn;grind
   simp[*]
def oC(x:cC):List Value:=[ai x.src,ad x.i,aj x.aD,au x.oa x.on x.oc]
def pg:aQ where
 X:=cC
 args x:=[ag (gi x)]
 pre x:=[af x.b (oC x) 68]
 cond x:=0<=x.i/\x.i<=x.src.size/\x.src.size<=1048576
 aO _ F:=Gl F
 val x _:=ax (ad (cF x.src (x.src.size+1) x.i.toNat x.aD).1)
 post x _:=[af x.b [ai x.src,ad ((cF x.src (x.src.size+1) x.i.toNat x.aD).2.1:Nat),aj (cF x.src (x.src.size+1) x.i.toNat x.aD).2.2,au x.oa x.on x.oc] 68]
structure jB where
 i:Nat
 f:Nat
 aD:Bool
 k:Nat
def Tq:(T:Type)×(e6×jB->T):=⟨jB,fun d=>d.2⟩
def abb(x:cC)(F:ah):Nat->Option Inv:=fun
 |0=>some {X:=jB,P:=fun d=>d.i<=x.src.size/\x.src.size<d.i+d.f/\cF x.src (x.src.size+1) x.i.toNat x.aD=cF x.src d.f d.i d.aD,mu:=fun d=>x.src.size-d.i,lv:=fun d=>[(0,ag (gi x))],st:=fun d=>[af x.b [ai x.src,ad d.i,aj d.aD,au x.oa x.on x.oc] 68,F]}
 |3=>some {X:=e6×jB,P:=fun d=>d.2.i<=d.1.i/\d.1.i<=x.src.size/\x.src.size<d.1.i+d.1.f/\fN x.src (x.src.size+1) d.2.i=fN x.src d.1.f d.1.i,mu:=fun d=>x.src.size-d.1.i,lv:=fun d=>[(0,ag (gi x))],st:=fun d=>[af x.b [ai x.src,ad d.1.i,aj d.2.aD,au x.oa x.on x.oc] 68,F],gh:=some Tq}
 |_=>none
def In(z:jB)(e0:cC):=z.i<=e0.src.size/\e0.src.size<z.i+z.f/\cF e0.src (e0.src.size+1) e0.i.toNat e0.aD=cF e0.src z.f z.i z.aD
def EL(e0:cC):=ag (gi e0)=ag (gi e0)/\True
def wS(x:cC)(F:ah):=[(0,af x.b (oC x) 68),(1,F)]
def pD(e0:cC)(z:jB)(e1:ah):=[(0,af e0.b [ai e0.src,ad ↑z.i,aj z.aD,au e0.oa e0.on e0.oc] 68),(1,e1)]
def C4(e0:cC)(e1:ah)(a:St)(mm:Nat):=∃(z:jB),In z e0/\EL e0/\aE a (pD e0 z e1)/\e0.src.size-z.i<mm
def E5(x:cC)(q:jB)(n:Nat×Nat)(F:ah):=aw x.b 2/\aw x.b 1/\bM ((q.i:Int)+(n.snd:Int))/\aw x.b 1/\C4 x F [(0,af x.b [ai x.src,ad ((q.i:Int)+(n.snd:Int)),aj true,au x.oa x.on x.oc] 68),(1,F)] (x.src.size-q.i)
def zm(x:cC)(q:jB)(n:Nat×Nat)(F:ah):=aw x.b 1/\bM ((q.i:Int)+(n.snd:Int))/\aw x.b 1/\C4 x F [(0,af x.b [ai x.src,ad ((q.i:Int)+(n.snd:Int)),aj q.aD,au x.oa x.on x.oc] 68),(1,F)] (x.src.size-q.i)
def tf(z:cC):=0<=z.i/\z.i<=z.src.size/\z.src.size<=1048576
def C7(aa:List Value)(rr:ah)(a:cC->Unit->Prop):=aC 51 w6/\true=true/\∃(z:cC),aa=[ag (gi z)]/\([]:List ah)=[]/\tf z/\o3 z rr/\∀(b:Unit),True->a z b
def H7(a:e6×jB)(x:cC)(f:jB):=(a.snd.i<=a.fst.i/\a.fst.i<=x.src.size/\x.src.size<a.fst.i+a.fst.f/\fN x.src (x.src.size+1) a.snd.i=fN x.src a.fst.f a.fst.i)/\Tq.snd a=f
def Ca(x:cC)(a:e6×jB)(F:ah):=[(0,af x.b [ai x.src,ad ↑a.fst.i,aj a.snd.aD,au x.oa x.on x.oc] 68),(1,F)]
def B3(x:cC)(F:ah)(e:e6×jB)(q:jB):=C4 x F (Ca x e F) (x.src.size-q.i)
def IH(q:jB):=(-9223372036854775808:Int)<=(q.i:Int)+2/\(q.i:Int)+2<=(9223372036854775807:Int)
def rT:=ax (ad (-1))
theorem abe(x:cC)(F:ah)(hc:pg.cond x)(O:pg.aO x F):(∃(a:jB),In a x/\EL x/\aE (wS x F) (pD x a F))/\aT fun(q:jB)_=>In q x->true=true/\aw x.b 1/\aw x.b 0/\aS ((q.i:Int)<(x.src.size:Int)) (true=true/\aw x.b 0/\aw x.b 1/\T5 [ai x.src,ad ↑q.i] (aH (pD x q F) []) (fun o n=>Br ((n.fst:Int)==10) (E5 x q n F) (Br ((n.fst:Int)==13) (E5 x q n F) (Br ((n.fst:Int)==8232) (E5 x q n F) (Br ((n.fst:Int)==8233) (E5 x q n F) (Br ((n.fst:Int)==9) (zm x q n F) (Br ((n.fst:Int)==11) (zm x q n F) (Br ((n.fst:Int)==12) (zm x q n F) (Br ((n.fst:Int)==32) (zm x q n F) (Br ((n.fst:Int)==160) (zm x q n F) (Br ((n.fst:Int)==65279) (zm x q n F) (C7 [ag (gi x)] (aH (pD x q F) []) (fun m l=>tY 50 [ai (m.src.extract m.i.toNat m.src.size),ai ⟨#[47,47]⟩] (fun k j=>Br (jm k.a k.b) (∃(f:jB),(∃(a:e6×jB),H7 a x f/\EL x/\aE (pD x q F) (Ca x a F))/\aT fun(e:e6×jB)_=>H7 e x f->true=true/\aw x.b 1/\aw x.b 0/\aS ((e.fst.i:Int)<(x.src.size:Int)) (true=true/\aw x.b 0/\aw x.b 1/\T5 [ai x.src,ad ↑e.fst.i] (aH (Ca x e F) []) (fun c b=>Br ((b.fst:Int)==10) (B3 x F e q) (Br ((b.fst:Int)==13) (B3 x F e q) (Br ((b.fst:Int)==8232) (B3 x F e q) (Br ((b.fst:Int)==8233) (B3 x F e q) (aw x.b 1/\bM ((e.fst.i:Int)+(b.snd:Int))/\aw x.b 1/\∃(a:e6×jB),H7 a x f/\EL x/\aE [(0,af x.b [ai x.src,ad ((e.fst.i:Int)+(b.snd:Int)),aj e.snd.aD,au x.oa x.on x.oc] 68),(1,F)] (Ca x a F)/\x.src.size-a.fst.i<x.src.size-e.fst.i))))) (fun c a=>aw x.b 1/\ar pg x F (ax (ad ↑e.fst.i)) (Ca x e F))) (B3 x F e q)) (C7 [ag (gi x)] (aH (pD x q F) []) (fun i h=>tY 50 [ai (i.src.extract i.i.toNat i.src.size),ai ⟨#[47,42]⟩] (fun g f=>Br (jm g.a g.b) (true=true/\aw x.b 0/\aw x.b 1/\IH q/\(0<=(q.i:Int)+2/\(q.i:Int)+2<=(x.src.size:Int)/\(x.src.size:Int)<=(x.src.size:Int))/\aC 52 Hi/\true=true/\∃(e:gq),[ai (x.src.extract ((q.i:Int)+2).toNat (x.src.size:Int).toNat),ai ⟨#[42,47]⟩]=[ai e.a,ai e.b]/\([]:List ah)=[]/\e.a.size<=1048576/\Gl (aH (pD x q F) [])/\∀(d:Unit),True->true=true/\aS (Lib.index e.a.data.toList e.b.data.toList<0) (aw x.b 1/\ar pg x F (ax (ad ↑q.i)) (pD x q F)) (aw x.b 0/\aw x.b 1/\IH q/\aw x.b 1/\IH q/\bM ((q.i:Int)+2+Lib.index e.a.data.toList e.b.data.toList)/\(0<=(q.i:Int)+2/\(q.i:Int)+2<=(q.i:Int)+2+Lib.index e.a.data.toList e.b.data.toList/\(q.i:Int)+2+Lib.index e.a.data.toList e.b.data.toList<=x.src.size)/\aC 53 tw/\true=true/\∃(c:qZ),[ag (gi x),ai (x.src.extract ((q.i:Int)+2).toNat ((q.i:Int)+2+Lib.index e.a.data.toList e.b.data.toList).toNat)]=[ag (uP c),ai c.s]/\[af x.b [ai x.src,ad ↑q.i,aj q.aD,au x.oa x.on x.oc] 68]=[af c.l.b (EI c) 68]/\c.s.size<=1048576/\Gl (aH (pD x q F) [0])/\∀(b:Unit),True->Br (!(eL c.s (c.s.size+1) 0 c.l.aD).fst) (d9 ⟨x.b,1,none⟩ c.l.b/\ar pg x F (ax (ad c.l.i)) [(0,af c.l.b [ai c.l.src,ad c.l.i,aj (eL c.s (c.s.size+1) 0 c.l.aD).snd,au c.l.oa c.l.on c.l.oc] 68),(1,F)]) (d9 ⟨x.b,1,none⟩ c.l.b/\((-9223372036854775808:Int)<=Lib.index e.a.data.toList e.b.data.toList+4/\Lib.index e.a.data.toList e.b.data.toList+4<=(9223372036854775807:Int))/\bM (c.l.i+(Lib.index e.a.data.toList e.b.data.toList+4))/\d9 ⟨x.b,1,none⟩ c.l.b/\C4 x F [(0,af c.l.b [ai c.l.src,ad (c.l.i+(Lib.index e.a.data.toList e.b.data.toList+4)),aj (eL c.s (c.s.size+1) 0 c.l.aD).snd,au c.l.oa c.l.on c.l.oc] 68),(1,F)] (x.src.size-q.i)))) (ar pg x F rT (pD x q F)))))))))))))))))) (fun o a=>aw x.b 1/\ar pg x F (ax (ad ↑q.i)) (pD x q F))) (ar pg x F rT (pD x q F)):=by
 delta In gi EL oC wS pD T5 C4 E5 zm tf C7 tY H7 Ca B3 IH uP EI rT aH aw bM ad ai aj ag au af aS ax aT;obtain⟨h0,hle,hs⟩:=hc;refine⟨⟨⟨x.i.toNat,x.src.size+1,x.aD,0⟩,⟨bg,bg,rfl⟩,⟨rfl,ao⟩,aE.pick [0,1] rfl (by dsimp only;rw[Int.toNat_of_nonneg h0];rfl)⟩,?_⟩;rintro⟨i,f,aD,k0⟩ js ⟨N,h2,G⟩;dsimp only at N h2 G⊢;have fin:∀{p:Int}{j:Nat}{M:Bool},cF x.src f i aD=(p,j,M)->ar pg x F (returned (int i64 p)) [(0,ah.cells x.b [string x.src,int i64 (j:Int),bool M,slice x.oa x.on x.oc] 68),(1,F)]:=fun{p j M}e=>by
  have U:=G.trans e;exact⟨(),ao,by show returned _=returned (.int .i64 (cF x.src (x.src.size+1) x.i.toNat x.aD).1);rw[U],aE.pick [0,1] rfl (by simp only[pg,U];rfl)⟩
 obtain⟨v,rfl⟩:∃v,f=v+1:=⟨f-1,ae⟩;refine⟨rfl,aq,aq,bo (fun hlt=>⟨rfl,aq,aq,Bl,rfl,⟨x.src,i⟩,rfl,rfl,bg,f1.rest (j:=1) aL O.oS,?_,?_⟩) (fun UG=>fin (by rw[cF,bF (show ¬i<x.src.size by omega)];rfl))⟩
 ·rintro⟨c,n⟩ u;have u:cS x.src (i:Int).toNat=some (c,n):=u;rw[cw]at u;obtain⟨W,f2,f3⟩:=jO u;have go:cF x.src (v+1) i aD=bif hL c then cF x.src v (i+n) true else bif rE c then cF x.src v (i+n) aD else bif cY x.src i [47,47] then bif (fN x.src (x.src.size+1) i).2 then cF x.src v (fN x.src (x.src.size+1) i).1 aD else ((fN x.src (x.src.size+1) i).1,(fN x.src (x.src.size+1) i).1,aD) else bif cY x.src i [47,42] then (match nG (x.src.extract (i+2) x.src.size) [42,47] (x.src.size+1) 0 with|none=>((i:Int),i,aD)|some k=>let r:=eL (x.src.extract (i+2) (i+2+k)) (x.src.size+1) 0 aD;bif r.1 then cF x.src v (i+k+4) r.2 else ((i:Int),i,r.2)) else (-1,i,aD):=by
   rw[cF,bv (show i<x.src.size by omega),aU,u]
   try rfl
  dsimp only;refine aG (fun e=>?_) (fun e1=>aG (fun e=>?_) (fun I=>aG (fun e=>?_) (fun P=>aG (fun e=>?_) (fun Q=>?_))))
  case refine_5=>
   have hn:hL c=false:=Hw e1 I P Q;rw[hn,aM]at go;refine aG (fun e=>?_) (fun s1=>aG (fun e=>?_) (fun s2=>aG (fun e=>?_) (fun s3=>aG (fun e=>?_) (fun s4=>aG (fun e=>?_) (fun s5=>aG (fun e=>?_) (fun s6=>?_))))))
   case refine_7=>
    have E:rE c=false:=ajX s1 s2 s3 s4 s5 s6;rw[E,aM]at go;have lx:∀{S:St}{b:Nat},gt S 0=ah.cells b [string x.src,int i64 (i:Int),bool aD,slice x.oa x.on x.oc] 68->o3 (cC.mk b x.src (i:Int) aD x.oa x.on x.oc) (.dq (rest S [])):=fun Y=>⟨aP.rest (j:=0) aL (by rw[Y];exact aP.cells rfl),aP.rest (j:=0) aL (by rw[Y];exact aP.cells rfl)⟩;refine br RQ ⟨x.b,x.src,i,aD,x.oa,x.on,x.oc⟩ ⟨bg,bg,hs⟩ (lx rfl) fun _ _=>kV DJ ⟨x.src.extract (i:Int).toNat x.src.size,⟨#[47,47]⟩⟩ fun _ _=>?_;dsimp only;have q1:jm (x.src.extract (i:Int).toNat x.src.size) {data:=#[(47:UInt8),(47:UInt8)]}=cY x.src i [47,47]:=by rw[cw];exact Nz (t:=[47,47]) (by decide) N
    rw[q1];refine aG (fun T=>?_) (fun T=>?_)
    ·rw[T,aU]at go;refine⟨⟨i,v+1,aD,0⟩,⟨(⟨i,x.src.size+1,false⟩,⟨i,v+1,aD,0⟩),⟨⟨bT _,N,bg,rfl⟩,rfl⟩,⟨rfl,ao⟩,az [0,1]⟩,?_⟩;rintro⟨⟨i2,f2,l2⟩,d⟩ js2 ⟨⟨g1,X,g3,g4⟩,hd⟩;have hd:d=⟨i,v+1,aD,0⟩:=hd;subst hd;dsimp only at g1 X g3 g4⊢;obtain⟨A,rfl⟩:∃A,f2=A+1:=⟨f2-1,ae⟩;have out:i<i2->fN x.src (A+1) i2=(i2,true)->∃(y:jB),(y.i<=x.src.size/\x.src.size<y.i+y.f/\cF x.src (x.src.size+1) x.i.toNat x.aD=cF x.src y.f y.i y.aD)/\(pointer (some {block:=x.b,off:=0})=pointer (some {block:=x.b,off:=0})/\True)/\aE [(0,ah.cells x.b [string x.src,int i64 (i2:Int),bool aD,slice x.oa x.on x.oc] 68),(1,F)] [(0,ah.cells x.b [string x.src,int i64 (y.i:Int),bool y.aD,slice x.oa x.on x.oc] 68),(1,F)]/\x.src.size-y.i<x.src.size-i:=fun hi he=>by
      rw[g4,he]at go;exact⟨⟨i2,v,aD,0⟩,⟨X,bg,G.trans go⟩,⟨rfl,ao⟩,az [0,1],bg⟩
     refine⟨rfl,aq,aq,bo (fun Z=>⟨rfl,aq,aq,Bl,rfl,⟨x.src,i2⟩,rfl,rfl,bg,f1.rest (j:=1) aL O.oS,?_,?_⟩) (fun J=>out ae (by rw[fN,bF (show ¬i2<x.src.size by omega)];rfl))⟩
     ·rintro⟨H,n2⟩ s;have s:cS x.src (i2:Int).toNat=some (H,n2):=s;rw[cw]at s;obtain⟨k1,k2,k3⟩:=jO s;dsimp only;refine aG (fun e=>?_) (fun e1=>aG (fun e=>?_) (fun I=>aG (fun e=>?_) (fun P=>aG (fun e=>?_) (fun Q=>?_))))
      case refine_5=>
       have z:hL H=false:=Hw e1 I P Q;refine⟨aq,aK,aq,(⟨i2+n2,A,false⟩,⟨i,v+1,aD,0⟩),⟨⟨bg,k1,bg,?_⟩,rfl⟩,⟨rfl,ao⟩,aE.pick [0,1] rfl (by dsimp only;rw[Int.natCast_add];rfl),bg⟩;rw[g4,fN,bv (show i2<x.src.size by omega),aU,s];show(bif hL H then _ else _)=_;rw[z,aM]
      all_goals
       have z:hL H=true:=yL (by have:=beq_iff_eq.1 e;omega);have hi:i<i2:=by
        rcases Nat.lt_or_ge i i2 with h|h
        ·exact h
        ·have:i2=i:=by omega
         rw[this,u]at s;cases s;rw[hn]at z;cases z
       refine out hi ?_;rw[fN,bv (show i2<x.src.size by omega),aU,s];show(bif hL H then _ else _)=_;rw[z,aU]
     ·intro _ s;have s:cS x.src (i2:Int).toNat=none:=s;rw[cw]at s;have e:fN x.src (x.src.size+1) i=(i2,false):=by
       rw[g4,fN,bv (show i2<x.src.size by omega),aU,s]
      rw[e]at go;exact⟨aq,fin go⟩
    ·rw[T,aM]at go;refine br RQ ⟨x.b,x.src,i,aD,x.oa,x.on,x.oc⟩ ⟨bg,bg,hs⟩ (lx rfl) fun _ _=>kV DJ ⟨x.src.extract (i:Int).toNat x.src.size,⟨#[47,42]⟩⟩ fun _ _=>?_;dsimp only;have q2:jm (x.src.extract (i:Int).toNat x.src.size) {data:=#[(47:UInt8),(42:UInt8)]}=cY x.src i [47,42]:=by rw[cw];exact Nz (t:=[47,42]) (by decide) N
     rw[q2];refine aG (fun w=>?_) (fun w=>?_)
     ·rw[w,aU]at go;have UI:i+2<=x.src.size:=by
       unfold cY at w;rw[gx,decide_eq_true_eq]at w;exact w.1
      have R:(x.src.extract (i+2) x.src.size).size=x.src.size-(i+2):=by rw[gS];omega
      have B:nG (x.src.extract (i+2) x.src.size) [42,47] (x.src.size+1) 0=if Lib.index (x.src.extract (i+2) x.src.size).data.toList (ByteArray.mk #[42,47]).data.toList= -1 then none else some (0+(Lib.index (x.src.extract (i+2) x.src.size).data.toList (ByteArray.mk #[42,47]).data.toList).toNat):=aer (x.src.extract (i+2) x.src.size) [42,47] (by decide) (x.src.size+1) 0 ae ae
      have L:(x.src.extract (i+2) x.src.size).data.toList.length=x.src.size-(i+2):=by rw[<-R];simp
      have K:Lib.index (x.src.extract (i+2) x.src.size).data.toList (ByteArray.mk #[42,47]).data.toList+(2:Nat)<=(x.src.extract (i+2) x.src.size).data.toList.length\/Lib.index (x.src.extract (i+2) x.src.size).data.toList (ByteArray.mk #[42,47]).data.toList= -1:=aez _ _;have J:=index_ge (x.src.extract (i+2) x.src.size).data.toList (ByteArray.mk #[42,47]).data.toList;rw[L]at K;have V:((i:Int)+2).toNat=i+2:=ae;refine⟨rfl,aq,aq,aK,⟨ae,ae,cD _⟩,aeN,rfl,⟨x.src.extract (i+2) x.src.size,⟨#[42,47]⟩⟩,by rw[V,cw],rfl,bg,Gl.rest (j:=1) aL O,fun _ _=>⟨rfl,?_⟩⟩;dsimp only;generalize Lib.index (x.src.extract (i+2) x.src.size).data.toList (ByteArray.mk #[42,47]).data.toList=q at*;refine bo (fun hq=>⟨aq,fin ?_⟩) (fun hq=>?_)
      ·rw[go,B,if_pos ae]
      ·obtain⟨k,rfl⟩:∃k:Nat,q=k:=⟨q.toNat,ae⟩;have hk:k+2<=x.src.size-(i+2):=ae;rw[B,if_neg ae]at go;have I:((i:Int)+2+(k:Int)).toNat=i+2+k:=ae;have er:eL (x.src.extract (i+2) (i+2+k)) (x.src.size+1) 0 aD=eL (x.src.extract (i+2) (i+2+k)) ((x.src.extract (i+2) (i+2+k)).size+1) 0 aD:=aiO _ _ _ _ _ (by rw[gS];omega) ae;have C:cF x.src (v+1) i aD=bif (eL (x.src.extract (i+2) (i+2+k)) ((x.src.extract (i+2) (i+2+k)).size+1) 0 aD).1 then cF x.src v (i+k+4) (eL (x.src.extract (i+2) (i+2+k)) ((x.src.extract (i+2) (i+2+k)).size+1) 0 aD).2 else ((i:Int),i,(eL (x.src.extract (i+2) (i+2+k)) ((x.src.extract (i+2) (i+2+k)).size+1) 0 aD).2):=by
        rw[<-er,go];show(bif (eL (x.src.extract (i+2) (i+2+(0+(k:Int).toNat))) (x.src.size+1) 0 aD).1 then cF x.src v (i+(0+(k:Int).toNat)+4) _ else _)=_;rw[gT,cw]
       refine⟨aq,aq,aK,aq,aK,aK,⟨ae,ae,ae⟩,aiX,rfl,⟨⟨x.b,x.src,i,aD,x.oa,x.on,x.oc⟩,x.src.extract (i+2) (i+2+k)⟩,by rw[V,I],rfl,by dsimp only;rw[gS];omega,Gl.rest (j:=1) aL O,fun _ _=>?_⟩;dsimp only;generalize eL (x.src.extract (i+2) (i+2+k)) ((x.src.extract (i+2) (i+2+k)).size+1) 0 aD=rr at*;obtain⟨ok,M⟩:=rr;dsimp only at C⊢;refine aG (fun D=>⟨aq,fin ?_⟩) (fun D=>⟨aq,aK,aK,aq,⟨i+k+4,v,M,0⟩,⟨bg,bg,G.trans ?_⟩,⟨rfl,ao⟩,aE.pick [0,1] rfl (by dsimp only;rw[show((i+k+4:Nat):Int)=(i:Int)+((k:Int)+4) by omega];rfl),bg⟩)
       ·have:ok=false:=by simpa using D
        rw[C,this];rfl
       ·have:ok=true:=by simpa using D
        rw[C,this];rfl
     ·rw[w,aM]at go;exact fin go
   all_goals
    have E:rE c=true:=aj0 (by have:=beq_iff_eq.1 e;omega);rw[E,aU]at go;exact⟨aq,aK,aq,⟨i+n,v,aD,0⟩,⟨W,bg,G.trans go⟩,⟨rfl,ao⟩,aE.pick [0,1] rfl (by dsimp only;rw[Int.natCast_add];rfl),bg⟩
  all_goals
   have hn:hL c=true:=yL (by have:=beq_iff_eq.1 e;omega);rw[hn,aU]at go;exact⟨aq,aq,aK,aq,⟨i+n,v,true,0⟩,⟨W,bg,G.trans go⟩,⟨rfl,ao⟩,aE.pick [0,1] rfl (by dsimp only;rw[Int.natCast_add];rfl),bg⟩
 ·intro _ u;have u:cS x.src (i:Int).toNat=none:=u;rw[cw]at u;exact⟨aq,fin (by rw[cF,bv (show i<x.src.size by omega),aU,u])⟩
theorem abc:aC 35 pg:=fo 204 Tryz.func35 (fun _ _=>[(2,8,aW oA),(11,1,aW w6),(11,2,aW nF),(13,8,aW oA),(18,1,aW w6),(18,2,aW nF),(19,10,aW Hi),(20,21,bu tw),(21,3,aR 0),(22,3,aR 0),(22,9,.w [.z00 0])]) [(1,3,aR 0),(1,7,aR 0),(2,3,aR 0),(2,7,aR 0),(7,3,.w [LH.z00 (0:Nat)]),(10,3,aR 0),(12,3,aR 0),(19,3,aR 0),(5,3,aR 0),(8,3,aR 0),(10,8,.w [LH.z00 (0:Nat)]),(12,7,aR 0),(19,7,aR 0),(8,8,.w [LH.z00 (0:Nat)]),(13,3,aR 0),(20,7,aR 0),(13,7,aR 0),(20,11,aR 0),(17,3,aR 0),(15,3,aR 0),(20,16,aR 0),(17,8,.w [LH.z00 (0:Nat)])] abb aY bA [] abe
end
section
open Go
def gA(b:Nat):Bool:=fi b||bL b
def DP:aQ:=vR gA
def Ap(aa:List Value)(a:nf->Unit->Prop):=aC 55 rG/\true=true/\∃(z:nf),aa=[a8 ↑z.c]/\([]:List ah)=[]/\z.c<256/\True/\∀(b:Unit),True->a z b
theorem afb(x:nf)(F:ah)(g:DP.cond x)(h:DP.aO x F):Ap [a8 ↑x.c] (fun d c=>Br (fi d.c) (ar DP x F fm [(0,F)]) (T0 [a8 ↑x.c] (fun b a=>ar DP x F (ax (aj (bL b.c))) [(0,F)]))):=by
 delta Ap fm T0 a8 aj ax;have f:x.c<256:=g;refine bO NM x f fun _ _=>aG (fun e=>⟨(),ao,kG (by unfold gA;simp[*]),az [0]⟩) (fun e=>bO vT x f fun _ _=>⟨(),ao,kG (by unfold gA;simp[*]),az [0]⟩)
theorem afa:aC 57 DP:=fo 9 Tryz.func57 (fun _ _=>[(1,1,aW rG),(1,4,aW pi)]) [] aY aY bA [] afb
theorem WC(s:ByteArray)(p:Nat->Bool):∀(f i:Nat),i<=s.size->i<=gj s p f i/\gj s p f i<=s.size:=by
 intro f
 induction f with
 |zero=>intro i h;exact⟨bT _,h⟩
 |succ f a=>
  intro i h;rw[gj];grind
def Cl(bJ:Nat)(p:Nat->Bool):aQ where
 X:=cC
 args x:=[.pointer (some ⟨x.b,0,none⟩),.func (.func bJ) #[] #[]]
 pre x:=[af x.b (oC x) 68]
 cond x:=0<=x.i/\x.i<=x.src.size/\x.src.size<=1048576
 val x _:=ax (ai (x.src.extract x.i.toNat (bE x.src p x.i.toNat)))
 post x _:=[af x.b [ai x.src,ad (bE x.src p x.i.toNat:Nat),aj x.aD,au x.oa x.on x.oc] 68]
def RS(bJ:Nat)(p:Nat->Bool)(x:cC)(F:ah):Nat->Option Inv:=fun
 |0=>some {X:=e6,P:=fun d=>x.i.toNat<=d.i/\d.i<=x.src.size/\x.src.size<d.i+d.f/\bE x.src p x.i.toNat=gj x.src p d.f d.i,mu:=fun d=>x.src.size-d.i,lv:=fun d=>[(0,.pointer (some ⟨x.b,0,none⟩)),(1,.func (.func bJ) #[] #[]),(5,.int .i64 x.i)],st:=fun d=>[af x.b [ai x.src,ad d.i,aj x.aD,au x.oa x.on x.oc] 68,F]}
 |_=>none
def RT(p:Nat->Bool)(b:cC)(a:ah):List (Nat×Nat×OH):=[(2,21,.c (vR p) [] [])]
def w8:aQ:=Cl 57 gA
def Iv(x:cC)(a:e6):=x.i.toNat<=a.i/\a.i<=x.src.size/\x.src.size<a.i+a.f/\bE x.src gA x.i.toNat=gj x.src gA a.f a.i
def Pf(x:cC):=ag (gi x)=ag (gi x)/\func (Fn.func 57) ⟨[]⟩ ⟨[]⟩=func (Fn.func 57) ⟨[]⟩ ⟨[]⟩/\ad x.i=ad x.i/\True
def qu(x:cC)(a:e6)(F:ah):=[(0,af x.b [ai x.src,ad ↑a.i,aj x.aD,au x.oa x.on x.oc] 68),(1,F)]
def Cd(e:e6)(x:cC):=0<=(e.i:Int)/\(e.i:Int)<(x.src.size:Int)
def BN(e:e6):=(-9223372036854775808:Int)<=(e.i:Int)+1/\(e.i:Int)+1<=(9223372036854775807:Int)
def BO(x:cC)(e:e6)(F:ah):=[(0,af x.b [ai x.src,ad ((e.i:Int)+1),aj x.aD,au x.oa x.on x.oc] 68),(1,F)]
def BJ(x:cC)(e:e6):=0<=x.i/\x.i<=e.i/\(e.i:Int)<=(x.src.size:Int)
def BG(x:cC)(e:e6):=ax (ai (x.src.extract x.i.toNat (e.i:Int).toNat))
def Q7(x:cC)(e:e6)(F:ah):=true=true/\aw x.b 0/\aw x.b 1/\BJ x e/\ar w8 x F (BG x e) (qu x e F)
theorem ajg(x:cC)(F:ah)(n:w8.cond x)(q:w8.aO x F):aw x.b 1/\(∃(a:e6),Iv x a/\Pf x/\aE (wS x F) (qu x a F))/\aT fun(e:e6)_=>Iv x e->true=true/\aw x.b 1/\aw x.b 0/\aS ((e.i:Int)<(x.src.size:Int)) (aw x.b 0/\aw x.b 1/\Cd e x/\aC 57 (vR gA)/\true=true/\∃(c:nf),[a8 (aF x.src (e.i:Int))]=[a8 ↑c.c]/\([]:List ah)=[]/\c.c<256/\True/\∀(b:Unit),True->Br (gA c.c) (aw x.b 1/\BN e/\aw x.b 1/\∃(a:e6),Iv x a/\Pf x/\aE (BO x e F) (qu x a F)/\x.src.size-a.i<x.src.size-e.i) (Q7 x e F)) (Q7 x e F):=by
 delta Iv gi Pf oC wS qu Cd BN BO BJ BG Q7 aw ad a8 ai aj ag au af aS ax aT;obtain⟨g,p,hs⟩:=n;refine⟨aq,⟨⟨x.i.toNat,x.src.size+1,false⟩,⟨bT _,by simp[*],by grind,rfl⟩,aV,aE.pick [0,1] rfl (by dsimp only;rw[Int.toNat_of_nonneg g];rfl)⟩,?_⟩;rintro⟨i,f,_⟩ r ⟨k,l,m,h⟩;dsimp only at k l m h⊢;obtain⟨d,rfl⟩:∃d,f=d+1:=⟨f-1,ae⟩;have fin:gj x.src gA (d+1) i=i->ar w8 x F (returned (string (x.src.extract x.i.toNat (i:Int).toNat))) [(0,ah.cells x.b [string x.src,int i64 (i:Int),bool x.aD,slice x.oa x.on x.oc] 68),(1,F)]:=fun e=>
  ⟨(),ao,by show returned _=returned (.string (x.src.extract x.i.toNat (bE x.src gA x.i.toNat)));simp[*],aE.pick [0,1] rfl (by simp only[w8,Cl,h,e];rfl)⟩
 refine⟨rfl,aq,aq,bo (fun j=>⟨aq,aq,⟨ae,j⟩,afa,rfl,⟨bt x.src i⟩,by rw[f_,cw],rfl,g0 _ _,ao,fun _ _=>aG (fun e=>?_) (fun e=>?_)⟩) (fun o=>⟨rfl,aq,aq,⟨g,ae,ae⟩,fin (by rw[gj,bF (show ¬i<x.src.size by omega)];rfl)⟩)⟩
 ·have e:gA (bt x.src i)=true:=e;exact⟨aq,aK,aq,⟨i+1,d,false⟩,⟨by grind,by grind,by grind,h.trans (by rw[gj,bv (show i<x.src.size by omega),e];rfl)⟩,aV,aE.pick [0,1] rfl (by rfl),by grind⟩
 ·have e:gA (bt x.src i)=false:=e;exact⟨rfl,aq,aq,⟨g,ae,ae⟩,fin (by rw[gj,bv (show i<x.src.size by omega),e];rfl)⟩
theorem ajf:aC 56 w8:=fo 50 Tryz.func56 (RT gA) [(1,3,aR 0),(2,3,aR 0),(2,7,aR 0),(2,15,aR 0),(4,3,aR 0),(2,19,aR 0),(4,8,aR 0),(3,3,aR 0),(3,7,.w [LH.z00 (0:Nat)])] (RS 57 gA) aY bA [] ajg
def tA:aQ:=Cl 58 bL
def Iq(x:cC)(a:e6):=x.i.toNat<=a.i/\a.i<=x.src.size/\x.src.size<a.i+a.f/\bE x.src bL x.i.toNat=gj x.src bL a.f a.i
def Pg(x:cC):=ag (gi x)=ag (gi x)/\func (Fn.func 58) ⟨[]⟩ ⟨[]⟩=func (Fn.func 58) ⟨[]⟩ ⟨[]⟩/\ad x.i=ad x.i/\True
def Q6(x:cC)(e:e6)(F:ah):=true=true/\aw x.b 0/\aw x.b 1/\BJ x e/\ar tA x F (BG x e) (qu x e F)
theorem aje(x:cC)(F:ah)(n:tA.cond x)(q:tA.aO x F):aw x.b 1/\(∃(a:e6),Iq x a/\Pg x/\aE (wS x F) (qu x a F))/\aT fun(e:e6)_=>Iq x e->true=true/\aw x.b 1/\aw x.b 0/\aS ((e.i:Int)<(x.src.size:Int)) (aw x.b 0/\aw x.b 1/\Cd e x/\aC 58 (vR bL)/\true=true/\∃(c:nf),[a8 (aF x.src (e.i:Int))]=[a8 ↑c.c]/\([]:List ah)=[]/\c.c<256/\True/\∀(b:Unit),True->Br (bL c.c) (aw x.b 1/\BN e/\aw x.b 1/\∃(a:e6),Iq x a/\Pg x/\aE (BO x e F) (qu x a F)/\x.src.size-a.i<x.src.size-e.i) (Q6 x e F)) (Q6 x e F):=by
 delta Iq gi Pg oC wS qu Cd BN BO BJ BG Q6 aw ad a8 ai aj ag au af aS ax aT;obtain⟨g,p,hs⟩:=n;refine⟨aq,⟨⟨x.i.toNat,x.src.size+1,false⟩,⟨bT _,by simp[*],by grind,rfl⟩,aV,aE.pick [0,1] rfl (by dsimp only;rw[Int.toNat_of_nonneg g];rfl)⟩,?_⟩;rintro⟨i,f,_⟩ r ⟨k,l,m,h⟩;dsimp only at k l m h⊢;obtain⟨d,rfl⟩:∃d,f=d+1:=⟨f-1,ae⟩;have fin:gj x.src bL (d+1) i=i->ar tA x F (returned (string (x.src.extract x.i.toNat (i:Int).toNat))) [(0,ah.cells x.b [string x.src,int i64 (i:Int),bool x.aD,slice x.oa x.on x.oc] 68),(1,F)]:=fun e=>
  ⟨(),ao,by show returned _=returned (.string (x.src.extract x.i.toNat (bE x.src bL x.i.toNat)));simp[*],aE.pick [0,1] rfl (by simp only[tA,Cl,h,e];rfl)⟩
 refine⟨rfl,aq,aq,bo (fun j=>⟨aq,aq,⟨ae,j⟩,vT,rfl,⟨bt x.src i⟩,by rw[f_,cw],rfl,g0 _ _,ao,fun _ _=>aG (fun e=>?_) (fun e=>?_)⟩) (fun o=>⟨rfl,aq,aq,⟨g,ae,ae⟩,fin (by rw[gj,bF (show ¬i<x.src.size by omega)];rfl)⟩)⟩
 ·have e:bL (bt x.src i)=true:=e;exact⟨aq,aK,aq,⟨i+1,d,false⟩,⟨by grind,by grind,by grind,h.trans (by rw[gj,bv (show i<x.src.size by omega),e];rfl)⟩,aV,aE.pick [0,1] rfl (by rfl),by grind⟩
 ·have e:bL (bt x.src i)=false:=e;exact⟨rfl,aq,aq,⟨g,ae,ae⟩,fin (by rw[gj,bv (show i<x.src.size by omega),e];rfl)⟩
theorem RR:aC 56 tA:=fo 50 Tryz.func56 (RT bL) [(1,3,aR 0),(2,3,aR 0),(2,7,aR 0),(2,15,aR 0),(4,3,aR 0),(2,19,aR 0),(4,8,aR 0),(3,3,aR 0),(3,7,.w [LH.z00 (0:Nat)])] (RS 58 bL) aY bA [] aje
def w9:aQ:=Cl 71 fv
def Ir(x:cC)(a:e6):=x.i.toNat<=a.i/\a.i<=x.src.size/\x.src.size<a.i+a.f/\bE x.src fv x.i.toNat=gj x.src fv a.f a.i
def Ph(x:cC):=ag (gi x)=ag (gi x)/\func (Fn.func 71) ⟨[]⟩ ⟨[]⟩=func (Fn.func 71) ⟨[]⟩ ⟨[]⟩/\ad x.i=ad x.i/\True
def Q8(x:cC)(e:e6)(F:ah):=true=true/\aw x.b 0/\aw x.b 1/\BJ x e/\ar w9 x F (BG x e) (qu x e F)
theorem aji(x:cC)(F:ah)(n:w9.cond x)(q:w9.aO x F):aw x.b 1/\(∃(a:e6),Ir x a/\Ph x/\aE (wS x F) (qu x a F))/\aT fun(e:e6)_=>Ir x e->true=true/\aw x.b 1/\aw x.b 0/\aS ((e.i:Int)<(x.src.size:Int)) (aw x.b 0/\aw x.b 1/\Cd e x/\aC 71 (vR fv)/\true=true/\∃(c:nf),[a8 (aF x.src (e.i:Int))]=[a8 ↑c.c]/\([]:List ah)=[]/\c.c<256/\True/\∀(b:Unit),True->Br (fv c.c) (aw x.b 1/\BN e/\aw x.b 1/\∃(a:e6),Ir x a/\Ph x/\aE (BO x e F) (qu x a F)/\x.src.size-a.i<x.src.size-e.i) (Q8 x e F)) (Q8 x e F):=by
 delta Ir gi Ph oC wS qu Cd BN BO BJ BG Q8 aw ad a8 ai aj ag au af aS ax aT;obtain⟨g,p,hs⟩:=n;refine⟨aq,⟨⟨x.i.toNat,x.src.size+1,false⟩,⟨bT _,by simp[*],by grind,rfl⟩,aV,aE.pick [0,1] rfl (by dsimp only;rw[Int.toNat_of_nonneg g];rfl)⟩,?_⟩;rintro⟨i,f,_⟩ r ⟨k,l,m,h⟩;dsimp only at k l m h⊢;obtain⟨d,rfl⟩:∃d,f=d+1:=⟨f-1,ae⟩;have fin:gj x.src fv (d+1) i=i->ar w9 x F (returned (string (x.src.extract x.i.toNat (i:Int).toNat))) [(0,ah.cells x.b [string x.src,int i64 (i:Int),bool x.aD,slice x.oa x.on x.oc] 68),(1,F)]:=fun e=>
  ⟨(),ao,by show returned _=returned (.string (x.src.extract x.i.toNat (bE x.src fv x.i.toNat)));simp[*],aE.pick [0,1] rfl (by simp only[w9,Cl,h,e];rfl)⟩
 refine⟨rfl,aq,aq,bo (fun j=>⟨aq,aq,⟨ae,j⟩,WS,rfl,⟨bt x.src i⟩,by rw[f_,cw],rfl,g0 _ _,ao,fun _ _=>aG (fun e=>?_) (fun e=>?_)⟩) (fun o=>⟨rfl,aq,aq,⟨g,ae,ae⟩,fin (by rw[gj,bF (show ¬i<x.src.size by omega)];rfl)⟩)⟩
 ·have e:fv (bt x.src i)=true:=e;exact⟨aq,aK,aq,⟨i+1,d,false⟩,⟨by grind,by grind,by grind,h.trans (by rw[gj,bv (show i<x.src.size by omega),e];rfl)⟩,aV,aE.pick [0,1] rfl (by rfl),by grind⟩
 ·have e:fv (bt x.src i)=false:=e;exact⟨rfl,aq,aq,⟨g,ae,ae⟩,fin (by rw[gj,bv (show i<x.src.size by omega),e];rfl)⟩
theorem ajh:aC 56 w9:=fo 50 Tryz.func56 (RT fv) [(1,3,aR 0),(2,3,aR 0),(2,7,aR 0),(2,15,aR 0),(4,3,aR 0),(2,19,aR 0),(4,8,aR 0),(3,3,aR 0),(3,7,.w [LH.z00 (0:Nat)])] (RS 71 fv) aY bA [] aji
theorem xj(s:ByteArray):(!s.toList==(ByteArray.mk #[]).toList)=decide (s.size>0):=by
 have h:s.toList=s.data.toList:=ByteArray.toList_eq s;have a:(ByteArray.mk #[]).toList=[]:=by simp[*]
 have b:s.data.toList.length=s.size:=aL;grind
theorem amJ(s:ByteArray):(ByteArray.mk #[32]++s++ByteArray.mk #[32]).data.toList=[32]++s.data.toList++[32]:=aL
theorem alb:Sh.size<=1048576:=by decide+kernel
structure ML where
 s:ByteArray
def xu:aQ where
 X:=ML
 args x:=[ai x.s]
 cond x:=x.s.size<=1048570
 aO _ F:=Gl F
 val x _:=ax (aj (zY x.s))
def oJ:ByteArray:=ByteArray.mk #[]
def LF(aa:List Value)(rr:ah)(a:gq->Unit->Prop):=aC 70 Dw/\true=true/\∃(z:gq),aa=[ai z.a,ai z.b]/\([]:List ah)=[]/\z.a.size<=1048576/\Gl rr/\∀(b:Unit),True->a z b
theorem alj(x:ML)(F:ah)(h:xu.cond x)(g:xu.aO x F):Br (!x.s.toList==oJ.toList) (LF [ai x.s,ai ⟨#[32]⟩] (cP F) (fun d c=>Br (!Lib.contains d.a.data.toList d.b.data.toList) (1+x.s.size<=9223372036854775807/\((ByteArray.mk #[32])++x.s).size+1<=9223372036854775807/\LF [ai {data:=(([32,98,114,101,97,107,32,99,97,115,101,32,99,97,116,99,104,32,99,108,97,115,115,32,99,111,110,115,116,32,99,111,110,116,105,110,117,101,32,100,101,98,117,103,103,101,114,32,100,101,102,97,117,108,116,32,100].append [101,108,101,116,101,32,100,111,32,101,108,115,101,32,101,110,117,109,32,101,120,112,111,114,116,32,101,120,116,101,110,100,115,32,102,97,108,115,101,32,102,105,110,97,108,108,121,32,102,111,114,32,102,117,110,99,116]).append ([105,111,110,32,105,102,32,105,109,112,111,114,116,32,105,110,32,105,110,115,116,97,110,99,101,111,102,32,108,101,116,32,110,101,119,32,110,117,108,108,32,114,101,116,117,114,110,32,115,117,112,101,114,32,115,119,105].append [116,99,104,32,116,104,105,115,32,116,104,114,111,119,32,116,114,117,101,32,116,114,121,32,116,121,112,101,111,102,32,118,97,114,32,118,111,105,100,32,119,104,105,108,101,32,119,105,116,104,32,121,105,101,108,100,32])).toArray},ai ((ByteArray.mk #[32])++x.s++(ByteArray.mk #[32]))] (cP F) (fun b a=>ar xu x F (ax (aj (Lib.contains b.a.data.toList b.b.data.toList))) [(0,F)])) (ar xu x F cV [(0,F)]))) (ar xu x F cV [(0,F)]):=by
 delta oJ LF cP c6 cV aH ai aj ax;have hs:x.s.size<=1048570:=h;have i:(ByteArray.mk #[32]++x.s).size=1+x.s.size:=ky;refine aG (fun f=>br TG ⟨x.s,⟨#[32]⟩⟩ (by grind) (Gl.rest (j:=0) aL g) fun _ _=>aG (fun e=>⟨ae,ae,TG,rfl,⟨Sh,⟨#[32]⟩++x.s++⟨#[32]⟩⟩,rfl,rfl,alb,Gl.rest (j:=0) aL g,fun _ _=>⟨(),ao,kG ?_,az [0]⟩⟩) (fun e=>⟨(),ao,kG ?_,az [0]⟩)) (fun f=>⟨(),ao,kG ?_,az [0]⟩)
 ·have e:(!Lib.contains x.s.data.toList [32])=true:=e;rw[xj]at f;unfold zY;simp[*]
 ·have e:(!Lib.contains x.s.data.toList [32])=false:=e;unfold zY;simp[*]
 ·rw[xj]at f;unfold zY;simp[*]
theorem alg:aC 59 xu:=fo 16 Tryz.func59 (fun _ _=>[(1,4,aW Dw),(1,11,aW Dw)]) [] aY aY bA [] alj
theorem Xx(n:Int):0<=u8.wrap n/\u8.wrap n<256:=by
 simp only[IntKind.wrap,IntKind.bits,IntKind.signed,jk,Bool.false_eq_true,if_false];omega
theorem ajL{b:Nat}(h:b<256)(hx:fv b=true):((bif bL b then 48 else 97)<=(bif bL b then b else b|||32))/\(bif bL b then b-48 else (b|||32)-97+10)<16:=by
 have:∀d:Fin 256,fv d.val=true->((bif bL d.val then 48 else 97)<=(bif bL d.val then d.val else d.val|||32))/\(bif bL d.val then d.val-48 else (d.val|||32)-97+10)<16:=by decide
 exact this ⟨b,h⟩ hx
structure n0 where
 l:cC
 n:Nat
structure pY where
 k:Nat
 i:Nat
 u:Nat
def v7(s:ByteArray)(n i:Nat):ByteArray:=match (et s n i 0).2 with|some u=>cL [u/256%256,u%256]|none=>⟨#[]⟩
def tk(x:n0):Option Addr:=some ⟨x.l.b,0,none⟩
def EH(x:n0):List Value:=[ai x.l.src,ad x.l.i,aj x.l.aD,au x.l.oa x.l.on x.l.oc]
def sE:aQ where
 X:=n0
 args x:=[ag (tk x),ad x.n]
 pre x:=[af x.l.b (EH x) 68]
 cond x:=0<=x.l.i/\x.l.i<=x.l.src.size/\x.l.src.size<=1048576/\x.n<=4
 val x _:=.returned (.tuple #[.string (v7 x.l.src x.n x.l.i.toNat),.bool (et x.l.src x.n x.l.i.toNat 0).2.isSome])
 post x _:=[af x.l.b [ai x.l.src,ad ((et x.l.src x.n x.l.i.toNat 0).1:Nat),aj x.l.aD,au x.l.oa x.l.on x.l.oc] 68]
def ace(x:n0)(F:ah):Nat->Option Inv:=fun
 |0=>some {X:=pY,P:=fun d=>d.k<=x.n/\d.i<=x.l.src.size/\d.u<16^d.k/\et x.l.src x.n x.l.i.toNat 0=et x.l.src (x.n-d.k) d.i d.u,mu:=fun d=>x.n-d.k,lv:=fun d=>[(0,ag (tk x)),(6,ad d.u),(9,ad x.n),(10,ad d.k)],st:=fun d=>[af x.l.b [ai x.l.src,ad d.i,aj x.l.aD,au x.l.oa x.l.on x.l.oc] 68,F]}
 |_=>none
def Im(z:pY)(e0:n0):=z.k<=e0.n/\z.i<=e0.l.src.size/\z.u<Nat.pow 16 z.k/\et e0.l.src e0.n e0.l.i.toNat 0=et e0.l.src (e0.n-z.k) z.i z.u
def OA(e0:n0)(z:pY):List Value:=[ai e0.l.src,ad ↑z.i,aj e0.l.aD,au e0.l.oa e0.l.on e0.l.oc]
def E1(e0:n0)(z:pY)(e1:ah):=[(0,af e0.l.b (OA e0 z) 68),(1,e1)]
def n9(aa:List Value)(rr:ah)(a:cC->Unit->Prop):=aC 54 mU/\true=true/\∃(z:cC),aa=[ag (gi z)]/\([]:List ah)=[]/\(0<=z.i/\z.src.size<=1048576)/\o3 z rr/\∀(b:Unit),True->a z b
def rQ(g:cC):List Value:=[a8 (↑(bt g.src g.i.toNat):Int)]
def qk:=ax (tuple ⟨[ai ⟨#[]⟩,aj false]⟩)
def Qk(i:pY):=(-9223372036854775808:Int)<=(i.u:Int)*16/\(i.u:Int)*16<=(9223372036854775807:Int)
def Qp(i:pY):=(-9223372036854775808:Int)<=(i.i:Int)+1/\(i.i:Int)+1<=(9223372036854775807:Int)
def Qt(i:pY):=(-9223372036854775808:Int)<=(i.k:Int)+1/\(i.k:Int)+1<=(9223372036854775807:Int)
def LZ(e0:n0)(e1:ah)(v0 v1:Value)(a:St)(mm:Nat):=∃(z:pY),Im z e0/\(ag (tk e0)=ag (tk e0)/\v0=ad ↑z.u/\ad ↑e0.n=ad ↑e0.n/\v1=ad ↑z.k/\True)/\aE a (E1 e0 z e1)/\e0.n-z.k<mm
def QG(x:n0)(i:pY)(F:ah):=[(0,af x.l.b [ai x.l.src,ad ((i.i:Int)+1),aj x.l.aD,au x.l.oa x.l.on x.l.oc] 68),(1,F)]
def Pl(x:n0)(i:pY)(F:ah)(c:Nat):=[(0,af x.l.b (OA x i) 68),(1,F),(14050,af c [a8 ((i.u:Int).fdiv ((2:Int)^min (Int.toNat (8:Int)) i64.bits)),a8 (u8.wrap (i.u:Int))] 5)]
theorem acg(x:n0)(F:ah)(A:sE.cond x)(H:sE.aO x F):(∃(a:pY),Im a x/\(ag (tk x)=ag (tk x)/\ad 0=ad ↑a.u/\ad ↑x.n=ad ↑x.n/\ad 0=ad ↑a.k/\True)/\aE [(0,af x.l.b (EH x) 68),(1,F)] (E1 x a F))/\aT fun(i:pY)_=>Im i x->aS ((i.k:Int)<(x.n:Int)) (n9 [ag (tk x)] (aH (E1 x i F) []) (fun g f=>aC 71 xh/\true=true/\∃(e:nf),(rQ g)=[a8 ↑e.c]/\([]:List ah)=[]/\e.c<256/\True/\∀(d:Unit),True->Br (!fv e.c) (ar sE x F qk (E1 x i F)) (bM (u8.wrap ((↑(bt g.src g.i.toNat):Int)-48))/\T0 (rQ g) (fun c b=>Br (!bL c.c) (bM (u8.wrap (u8.wrap (↑(BitVec.ofInt u8.bits (↑(bt g.src g.i.toNat):Int)|||BitVec.ofInt u8.bits (32:Int)).toNat:Int)-97))/\((-9223372036854775808:Int)<=u8.wrap (u8.wrap (↑(BitVec.ofInt u8.bits (↑(bt g.src g.i.toNat):Int)|||BitVec.ofInt u8.bits (32:Int)).toNat:Int)-97)+10/\u8.wrap (u8.wrap (↑(BitVec.ofInt u8.bits (↑(bt g.src g.i.toNat):Int)|||BitVec.ofInt u8.bits (32:Int)).toNat:Int)-97)+10<=(9223372036854775807:Int))/\Qk i/\bM ((i.u:Int)*16+(u8.wrap (u8.wrap (↑(BitVec.ofInt u8.bits (↑(bt g.src g.i.toNat):Int)|||BitVec.ofInt u8.bits (32:Int)).toNat:Int)-97)+10))/\aw x.l.b 1/\Qp i/\aw x.l.b 1/\Qt i/\LZ x F (ad ((i.u:Int)*16+(u8.wrap (u8.wrap (↑(BitVec.ofInt u8.bits (↑(bt g.src g.i.toNat):Int)|||BitVec.ofInt u8.bits (32:Int)).toNat:Int)-97)+10))) (ad ((i.k:Int)+1)) (QG x i F) (x.n-i.k)) (Qk i/\bM ((i.u:Int)*16+u8.wrap ((↑(bt g.src g.i.toNat):Int)-48))/\aw x.l.b 1/\Qp i/\aw x.l.b 1/\Qt i/\LZ x F (ad ((i.u:Int)*16+u8.wrap ((↑(bt g.src g.i.toNat):Int)-48))) (ad ((i.k:Int)+1)) (QG x i F) (x.n-i.k)))))) ((0<=(i.u:Int).fdiv ((2:Int)^min (Int.toNat (8:Int)) i64.bits)/\(i.u:Int).fdiv ((2:Int)^min (Int.toNat (8:Int)) i64.bits)<=255)/\∀(c:Nat),T8 (ba Tryz.f90 13 6) [au (bI c) 2 2] (aH (Pl x i F c) []) (fun b a=>ar sE x F (ax (tuple ⟨[ai (cL b.l),aj true]⟩)) (Pl x i F c))):=by
 delta Im tk EH OA E1 gi n9 rQ qk T0 Qk Qp Qt LZ QG T8 bI Pl aH aw bM ad a8 ai aj ag au af aS ax aT;obtain⟨w,D,hs,hn⟩:=A;refine⟨⟨⟨0,x.l.i.toNat,0⟩,⟨df _,by simp[*],Nat.one_pos,rfl⟩,aV,aE.pick [0,1] rfl (by dsimp only;rw[Int.toNat_of_nonneg w];rfl)⟩,?_⟩;rintro⟨k,i,u⟩ J ⟨y,z,t,p⟩;dsimp only at y z t p⊢;have I:u<65536:=Nat.lt_of_lt_of_le t (show 16^k<=16^4 from mN ae ae);refine bo (fun E=>?_) (fun B=>?_)
 ·refine br sZ ⟨x.l.b,x.l.src,i,x.l.aD,x.l.oa,x.l.on,x.l.oc⟩ ⟨by simp[*],hs⟩ ⟨aP.rest (j:=0) aL (aP.cells rfl),aP.rest (j:=0) aL (aP.cells rfl)⟩ fun _ _=>⟨WS,rfl,⟨bt x.l.src i⟩,by rfl,rfl,g0 _ _,ao,fun _ _=>?_⟩;dsimp only;rw[cw];have q:=g0 x.l.src i;obtain⟨m,v⟩:∃m,x.n-k=m+1:=⟨x.n-k-1,ae⟩;refine aG (fun hx=>?_) (fun hx=>?_)
  ·have hx:fv (bt x.l.src i)=false:=by grind
   have e:et x.l.src x.n x.l.i.toNat 0=(i,none):=by
    rw[p,v,et,hx,j5];rfl
   exact⟨(),ao,by show returned _=returned (.tuple #[.string (v7 x.l.src x.n x.l.i.toNat),.bool _]);unfold v7;grind,aE.pick [0,1] rfl (by simp only[sE,e];rfl)⟩
  ·have hx:fv (bt x.l.src i)=true:=by grind
   have hi:i<x.l.src.size:=by
    rcases Nat.lt_or_ge i x.l.src.size with h|h
    ·exact h
    ·rw[ud h]at hx;cases hx
   have step:et x.l.src (x.n-k) i u=et x.l.src (x.n-(k+1)) (i+1) (u*16+(bif bL (bt x.l.src i) then bt x.l.src i-48 else (bt x.l.src i|||32)-97+10)):=by
    rw[v,et,bv hi,hx,show x.n-(k+1)=m by omega];rfl
   rw[yS q];have hd:=ajL q hx;have l:∀d:Nat,d<16->(bif bL (bt x.l.src i) then bt x.l.src i-48 else (bt x.l.src i|||32)-97+10)=d->u*16+d<Nat.pow 16 (k+1)/\et x.l.src x.n x.l.i.toNat 0=et x.l.src (x.n-(k+1)) (i+1) (u*16+d):=fun d hd e=>by
    refine⟨?_,?_⟩
    ·have:Nat.pow 16 (k+1)=Nat.pow 16 k*16:=Nat.pow_succ ..;omega
    grind
   refine⟨⟨by have:=Xx ((bt x.l.src i:Int)-48);omega,by have:=Xx ((bt x.l.src i:Int)-48);omega⟩,vT,rfl,⟨bt x.l.src i⟩,rfl,rfl,q,ao,fun _ _=>aG (fun n=>?_) (fun n=>?_)⟩
   ·have n:bL (bt x.l.src i)=false:=by grind
    simp only[n,aM]at l hd;have hl:=hd.1;have o:u8.wrap (((bt x.l.src i|||32:Nat):Int)-97)=(((bt x.l.src i|||32)-97:Nat):Int):=by
     rw[show(((bt x.l.src i|||32:Nat):Int)-97)=(((bt x.l.src i|||32)-97:Nat):Int) by omega,FC];omega
    rw[o];obtain⟨r,s⟩:=l _ hd.2 rfl;exact⟨aK,aK,aK,aK,aq,aK,aq,aK,⟨k+1,i+1,u*16+((bt x.l.src i|||32)-97+10)⟩,⟨by grind,by grind,r,s⟩,⟨rfl,by rfl,rfl,rfl,ao⟩,aE.pick [0,1] rfl (by rfl),by grind⟩
   ·have n:bL (bt x.l.src i)=true:=by grind
    simp only[n,aU]at l hd;have hl:=hd.1;have o:u8.wrap ((bt x.l.src i:Int)-48)=((bt x.l.src i-48:Nat):Int):=by
     rw[show((bt x.l.src i:Int)-48)=((bt x.l.src i-48:Nat):Int) by omega,FC];omega
    rw[o];obtain⟨r,s⟩:=l _ hd.2 rfl;exact⟨aK,aK,aq,aK,aq,aK,⟨k+1,i+1,u*16+(bt x.l.src i-48)⟩,⟨by grind,by grind,r,s⟩,⟨rfl,by rfl,rfl,rfl,ao⟩,aE.pick [0,1] rfl (by rfl),by grind⟩
 ·have hk:x.n-k=0:=by omega
  have e:et x.l.src x.n x.l.i.toNat 0=(i,some u):=by rw[p,hk,et]
  rw[WR,FC];refine⟨aK,fun b=>br (GI rfl rfl rfl rfl) ⟨some ⟨b,0,none⟩,2,2,[u/256,u%256]⟩ (.fO b 0 2 rfl) (?_) fun _ _=>⟨(),ao,?_,aE.pick [0,1] rfl (by simp only[sE,e];rfl)⟩⟩
  ·intro G h;cases h;exact c4.rest (j:=14050) aL (c4.cells (fun j u C=>by rw[gT];exact C))
  ·show returned _=returned (.tuple #[.string (v7 x.l.src x.n x.l.i.toNat),.bool _]);unfold v7;grind
theorem TN:aC 90 sE:=fo 47 Tryz.func90 (fun _ _=>[(4,1,aW mU),(5,1,aW xh),(8,1,aW pi),(13,4,aX),(13,5,.n 14050),(13,6,.o yd [] [])]) [(11,3,aR 0),(11,7,.w [LH.z00 (0:Nat)])] ace aY bA [] acg
end
end Go.Proofs.YtdkchodgklpomaaGreatDoor
