/- Part of the proof that ParseJoins answers true at every input. -/
import Derived.Test.YtdkchodgklpomaaGreatDoorPJab
set_option linter.all false
namespace Go.Proofs.YtdkchodgklpomaaGreatDoor
set_option maxRecDepth 100000
open Go.Value (int slice string bool pointer agg tuple func float iface nilIface)
open Go.IntKind (i64 u8 u64 i32 u32 u16 i8 i16)
open Go.FloatKind (f64)
open Go.Ending (returned panicked)
section
def aH(S:List (Nat×ah))(l:List Nat):ah:=.du (rest S l)
def dT(a b:Int):Ending:=.panicked [{v:=.iface 51 (.agg ⟨[.int .i64 a,.int .i64 b]⟩),recovered:=false}]
def aw(b i:Nat):Prop:=ed ⟨b,i,none⟩ b
def bK(z:Int):Prop:=(-9223372036854775808:Int)<=z/\z<=9223372036854775807
def cx(b:Nat)(p:Prop):Prop:=ed ⟨b,0,none⟩ b/\ed ⟨b,1,none⟩ b/\ed ⟨b,2,none⟩ b/\ed ⟨b,3,none⟩ b/\ed ⟨b,4,none⟩ b/\p
abbrev ad(z:Int):Value:=.int .i64 z
abbrev ba(z:Int):Value:=.int .u8 z
abbrev az(z:Int):Value:=.int .u64 z
abbrev eh(z:Int):Value:=.int .i32 z
abbrev ai(s:ByteArray):Value:=.string s
abbrev aj(b:Bool):Value:=.bool b
abbrev ag(a:Option Addr):Value:=.pointer a
abbrev au:= @Value.slice
abbrev fu:= @Value.iface
abbrev af:= @ah.cells
abbrev qI:= @ah.hZ
abbrev dU:= @ah.du
abbrev bc:=ah.d8
def ce(z:Int):=BitVec.ofInt IntKind.u64.bits z
def gY(z:Int):=BitVec.ofInt IntKind.i64.bits z
def bd(z:Int):Int:=IntKind.u64.wrap z
def bV(z:Int):Int:=IntKind.i64.wrap z
def DL(z:Int):Int:=IntKind.i32.wrap z
def aS(p:Prop)[Decidable p](a b:Prop):Prop:=Br (decide p) a b
abbrev ay(v:Value):Ending:=.returned v
def aT{X:Type}(p:X->(Nat->Value)->Prop):Prop:=∀a j,p a j
section
variable{X:Type}{A:Prop}{aa:List Value}{pp:List ah}{fa:X->List Value}{fp:X->List ah}{c r K:X->Prop}
theorem bs(ok:A)(z:X)(b:c z)(d:r z)(k:K z)(a:aa=fa z:=by exact rfl)(hp:pp=fp z:=by exact rfl):A/\true=true/\∃z,aa=fa z/\pp=fp z/\c z/\r z/\K z:=⟨ok,rfl,z,a,hp,b,d,k⟩
theorem bO(ok:A)(z:X)(b:c z)(k:K z)(a:aa=fa z:=by exact rfl)(hp:pp=fp z:=by exact rfl)(d:r z:=by exact trivial):A/\true=true/\∃z,aa=fa z/\pp=fp z/\c z/\r z/\K z:=⟨ok,rfl,z,a,hp,b,d,k⟩
theorem l6(ok:A)(z:X)(k:K z)(a:aa=fa z:=by exact rfl)(hp:pp=fp z:=by exact rfl)(b:c z:=by exact trivial)(d:r z:=by exact trivial):A/\true=true/\∃z,aa=fa z/\pp=fp z/\c z/\r z/\K z:=⟨ok,rfl,z,a,hp,b,d,k⟩
end
def aX(C:aR):OH:=.c C [] []
def bv(C:aR):OH:=.c C [0] [0]
def aP(n:Nat):OH:=.q [.z00 n]
def aW:OH:=.q []
def dd:OH:=.q [.ex 0 (.int .i64)]
def d3(C:aR):OH:=.o C [0] [0]
theorem adA:Tryz.prog.follows .mixedOrders=true:=by kernel_rfl
theorem amu{a b:Nat}(h:Nat.ble a b=true):a<=b:=Nat.le_of_ble_eq_true h
def aY{X:Type}:X->ah->Nat->Option Inv:=fun _ _ _=>none
def bA:Nat->List Nat:=fun _=>[]
abbrev aD(f:FuncId)(C:aR):Prop:=kf Tryz.prog f C
theorem fo{f:FuncId}{fn:Func}{c:Code}{C:aR}(N:Nat)(l:Tryz.prog.funcs[f]?=some fn)(o:C.X->ah->List (Nat×Nat×OH))(hs:List (Nat×Nat×OH))(b a:C.X->ah->Nat->Option Inv)(od:Nat->List Nat)(d:List LH){v:C.X->ah->Prop}(h:∀x F,C.cond x->C.aO x F->v x F)
  (j:fn.body=some c:=by exact rfl) (i:fn.ntmps=N:=by kernel_rfl) (hl:∀x,(C.args x).length<=N:=by intro _;exact Nat.le_of_ble_eq_true rfl) (k:∀x F,v x F=Body Tryz.prog N fn ⟨hk (o x F++hs),b x F,a x F,od⟩ d c (nh (C.args x)) (bC (C.pre x++[F])) (ar C x F):=by intro _ _;kernel_rfl):kf Tryz.prog f C:=
 adx adA l j i hl (fun x F=>⟨hk (o x F++hs),b x F,a x F,od⟩) d fun x F e g=>Eq.mp (k x F) (h x F e g)
open Go
theorem xA{p q:Int}(h:p=q):returned (.int .i64 p)= .returned (.int .i64 q):=congrArg (fun q=>returned (int .i64 q)) h
theorem k8{p q:Bool}(h:p=q):returned (.bool p)= .returned (.bool q):=congrArg (fun q=>returned (bool q)) h
theorem zn{c:Nat}(h:c<256):u8.wrap (↑(BitVec.ofInt u8.bits (↑c:Int)|||BitVec.ofInt u8.bits 32).toNat:Int)=((c|||32:Nat):Int):=by
 have:∀d:Fin 256,u8.wrap (↑(BitVec.ofInt u8.bits (↑d.val:Int)|||BitVec.ofInt u8.bits 32).toNat:Int)=((d.val|||32:Nat):Int):=by decide
 exact this ⟨c,h⟩
theorem gB(s:ByteArray)(i:Int):aF s i=(bt s i.toNat:Int):=by
 unfold aF bt;rw[ft,Array.getElem?_toList];cases s.data[i.toNat]? <;> rfl
theorem uL{s:ByteArray}{i:Nat}(h:s.size<=i):bt s i=0:=by
 unfold bt;simp[*]
theorem hF(s:ByteArray)(i:Nat):bt s i<256:=by
 unfold bt;cases h:s.data[i]? with
 |none=>show(0:Nat)<256;omega
 |some b=>exact b.toNat_lt
structure nO where
 c:Nat
def wn(p:Nat->Bool):aR where
 X:=nO
 args x:=[ba x.c]
 cond x:=x.c<256
 val x _:=ay (aj (p x.c))
def sn:aR:=wn fX
def pJ:aR:=wn bM
def xO:aR:=wn fC
def gH:=ay (aj true)
def Ql(x:nO)(F:ah):=Br ((x.c:Int)==95) (ar sn x F gH [(0,F)]) (ar sn x F (ay (aj ((x.c:Int)==36))) [(0,F)])
def OX(x:nO)(F:ah):=aS ((x.c:Int)>=65) (aS ((x.c:Int)<=90) (ar sn x F gH [(0,F)]) (Ql x F)) (Ql x F)
theorem afI(x:nO)(F:ah)(a:sn.cond x)(c:sn.aO x F):aS ((x.c:Int)>=97) (aS ((x.c:Int)<=122) (ar sn x F gH [(0,F)]) (OX x F)) (OX x F):=by
 delta gH Ql OX aj aS ay;have b:x.c<256:=a
 repeat' (first| (refine aG (fun _=>?_) (fun _=>?_)))
 all_goals (refine⟨(),ao,k8 (Bool.eq_iff_iff.2 ?_),aA [0]⟩;simp_all [fX,nf];try omega)
theorem N8:kf Tryz.prog 55 sn:=fo 25 Tryz.func55 (fun _ _=>[]) [] aY aY bA [] afI
def dk:=aj false
def cQ:=ay dk
theorem acx(x:nO)(F:ah)(a:pJ.cond x)(c:pJ.aO x F):aS ((x.c:Int)>=48) (ar pJ x F (ay (aj (decide ((x.c:Int)<=57)))) [(0,F)]) (ar pJ x F cQ [(0,F)]):=by
 delta dk cQ aj aS ay;have b:x.c<256:=a
 repeat' (first| (refine aG (fun _=>?_) (fun _=>?_)))
 all_goals (refine⟨(),ao,k8 (Bool.eq_iff_iff.2 ?_),aA [0]⟩;simp_all [bM,nf];try omega)
theorem wq:kf Tryz.prog 58 pJ:=fo 9 Tryz.func58 (fun _ _=>[]) [] aY aY bA [] acx
def T0(aa:List Value)(a:nO->Unit->Prop):=kf Tryz.prog 58 pJ/\true=true/\∃(z:nO),aa=[ba ↑z.c]/\([]:List ah)=[]/\z.c<256/\True/\∀(b:Unit),True->a z b
theorem aj5(x:nO)(F:ah)(d:xO.cond x)(f:xO.aO x F):T0 [ba ↑x.c] (fun b a=>Br (bM b.c) (ar xO x F gH [(0,F)]) (aS (u8.wrap (↑(BitVec.ofInt u8.bits (x.c:Int)|||BitVec.ofInt u8.bits (32:Int)).toNat:Int)>=97) (ar xO x F (ay (aj (decide (u8.wrap (↑(BitVec.ofInt u8.bits (x.c:Int)|||BitVec.ofInt u8.bits (32:Int)).toNat:Int)<=102)))) [(0,F)]) (ar xO x F cQ [(0,F)]))):=by
 delta T0 gH dk cQ ba aj aS ay;have c:x.c<256:=d;have e:u8.wrap (↑(BitVec.ofInt u8.bits (↑x.c:Int)|||BitVec.ofInt u8.bits 32).toNat:Int)=((x.c|||32:Nat):Int):=zn c;rw[e];refine bO wq x c fun _ _=>?_
 repeat' (first| (refine aG (fun _=>?_) (fun _=>?_)))
 all_goals (refine⟨(),ao,k8 (Bool.eq_iff_iff.2 ?_),aA [0]⟩;simp_all [fC,nf];try omega)
theorem Xc:kf Tryz.prog 71 xO:=fo 15 Tryz.func71 (fun _ _=>[(1,1,aX pJ)]) [] aY aY bA [] aj5
structure cD where
 b:Nat
 src:ByteArray
 i:Int
 aI:Bool
 oa:Option Addr
 on:Nat
 oc:Nat
def px(x:cD)(F:ah):Prop:=aQ F ⟨x.b,0,none⟩ (.string x.src)/\aQ F ⟨x.b,1,none⟩ (.int .i64 x.i)
theorem px.sub{x:cD}{A B:ah}(hs:Sub A B)(h:px x A):px x B:=⟨h.1.sub hs,h.2.sub hs⟩
def gu(x:cD):Option Addr:=some ⟨x.b,0,none⟩
def ny:aR where
 X:=cD
 args x:=[ag (gu x)]
 cond x:=0<=x.i/\x.src.size<=1048576
 aO x F:=px x F
 val x _:=ay (ba (bt x.src x.i.toNat))
 eT _ _ _ hs h:=px.sub hs h
def T1(aa:ah)(a:Addr)(b:Int->Prop):=∃(z0:Int),aQ aa a (ad z0)/\b z0
def T2(aa:ah)(a:Addr)(b:ByteArray->Prop):=∃(z0:ByteArray),aQ aa a (ai z0)/\b z0
theorem ahX(x:cD)(F:ah)(f:ny.cond x)(g:ny.aO x F):true=true/\T1 F ⟨x.b,1,none⟩ (fun d=>T2 F ⟨x.b,0,none⟩ (fun c=>aS (d<c.size) (true=true/\T2 F ⟨x.b,0,none⟩ (fun b=>T1 F ⟨x.b,1,none⟩ (fun a=>(0<=a/\a<b.size)/\ar ny x F (ay (ba (aF b a))) [(0,F)]))) (ar ny x F (ay (ba 0)) [(0,F)]))):=by
 delta T1 T2 ad ba ai aS ay;have e:0<=x.i:=f.1;obtain⟨l0,l1⟩:=g;refine⟨rfl,x.i,l1,x.src,l0,bo (fun h=>⟨rfl,x.src,l0,x.i,l1,⟨e,h⟩,(),ao,?_,aA [0]⟩) (fun h=>⟨(),ao,?_,aA [0]⟩)⟩
 ·show returned _=returned _;rw[gB]
 ·show returned _=returned _;rw[uL ae];rfl
theorem tJ:kf Tryz.prog 54 ny:=fo 22 Tryz.func54 (fun _ _=>[(1,3,dd),(1,7,.q [.ex 0 .str]),(2,3,.q [.ex 0 .str]),(2,7,dd)]) [] aY aY bA [] ahX
def xC:aR where
 X:=cD
 args x:=[ag (gu x)]
 cond x:=0<=x.i/\x.i<=x.src.size/\x.src.size<=1048576
 aO x F:=px x F
 val x _:=ay (ai (x.src.extract x.i.toNat x.src.size))
 eT _ _ _ hs h:=px.sub hs h
theorem ajs(x:cD)(F:ah)(e:xC.cond x)(f:xC.aO x F):true=true/\T2 F ⟨x.b,0,none⟩ (fun b=>T1 F ⟨x.b,1,none⟩ (fun a=>(0<=a/\a<=b.size/\(b.size:Int)<=(b.size:Int))/\ar xC x F (ay (ai (b.extract a.toNat (b.size:Int).toNat))) [(0,F)])):=by
 delta T2 T1 ad ai ay;obtain⟨c,d,_⟩:=e;obtain⟨l0,l1⟩:=f;exact⟨rfl,x.src,l0,x.i,l1,⟨c,d,cE _⟩,(),ao,rfl,aA [0]⟩
theorem Sf:kf Tryz.prog 51 xC:=fo 12 Tryz.func51 (fun _ _=>[(1,3,.q [.ex 0 .str]),(1,7,dd)]) [] aY aY bA [] ajs
end
end Go.Proofs.YtdkchodgklpomaaGreatDoor
namespace Go.Proofs
section
open Go.Shelf
def Z3:Go.Shelf.Ren:=⟨fun|119=>104|n=>n,fun|21=>21|4=>4|n=>n,fun|n=>n⟩
theorem Z2:Go.Proofs.Lays.n119 Tryz.prog Z3:={
 mixed:=by kernel_rfl
 f119:=Tryz.func104.trans (congrArg some (by kernel_rfl))
 t4:=Tryz.underlying4
 a4:=Tryz.isAgg4
 z4:=Tryz.sizeOf4
 v4:=Tryz.zeroValue4
 t21:=Tryz.underlying21
 a21:=Tryz.isAgg21
 z21:=Tryz.sizeOf21
 v21:=Tryz.zeroValue21}
theorem Tryz.utf8_ValidRune(r:Int)(w:World):
  Calls Tryz.prog 104 #[.int .i32 r] w fun e w'=>e= .returned (.bool (Lib.validRune r))/\w'=w:=Any.utf8_ValidRune Z2 r w
def amm:Go.Shelf.Ren:=⟨fun|137=>100|217=>79|266=>93|n=>n,fun|9=>9|5=>5|3=>3|n=>n,fun|n=>n⟩
def aaf:Go.Shelf.Ren:=⟨fun|217=>79|266=>93|n=>n,fun|9=>9|5=>5|3=>3|n=>n,fun|n=>n⟩
theorem aae:Go.Proofs.Lays.n217 Tryz.prog aaf:={
 mixed:=by kernel_rfl
 f217:=Tryz.func79.trans (congrArg some (by kernel_rfl))
 f266:=Tryz.func93.trans (congrArg some (by kernel_rfl))
 t3:=Tryz.underlying3
 a3:=Tryz.isAgg3
 z3:=Tryz.sizeOf3
 v3:=Tryz.zeroValue3
 t5:=Tryz.underlying5
 a5:=Tryz.isAgg5
 z5:=Tryz.sizeOf5
 v5:=Tryz.zeroValue5
 t9:=Tryz.underlying9
 a9:=Tryz.isAgg9
 z9:=Tryz.sizeOf9
 v9:=Tryz.zeroValue9}
open Go.RowKit Go.Lib in
theorem Tryz.stringslite_IndexByte(s:ByteArray)(c:Int)(w:World):
  Calls Tryz.prog 79 #[.string s,.int .u8 c] w fun e w'=>e= .returned (.int .i64 (Lib.indexByte s.data.toList c.toNat.toUInt8))/\w'=w:=Any.stringslite_IndexByte aae s c w
def amn:Go.Shelf.Ren:=⟨fun|219=>69|217=>79|225=>80|224=>81|267=>82|266=>93|314=>94|n=>n,fun|9=>9|3=>3|4=>4|5=>5|46=>101|146=>116|51=>115|n=>n,fun|1=>4|n=>n⟩
def Z7:Go.Shelf.Ren:=⟨fun|143=>52|219=>69|217=>79|225=>80|224=>81|267=>82|266=>93|314=>94|n=>n,fun|9=>9|3=>3|4=>4|5=>5|46=>101|146=>116|51=>115|n=>n,fun|1=>4|n=>n⟩
theorem Z6:Go.Proofs.Lays.n143 Tryz.prog Z7:={
 mixed:=by kernel_rfl
 f143:=Tryz.func52.trans (congrArg some (by kernel_rfl))
 f217:=Tryz.func79.trans (congrArg some (by kernel_rfl))
 f219:=Tryz.func69.trans (congrArg some (by kernel_rfl))
 f224:=Tryz.func81.trans (congrArg some (by kernel_rfl))
 f225:=Tryz.func80.trans (congrArg some (by kernel_rfl))
 f266:=Tryz.func93.trans (congrArg some (by kernel_rfl))
 f267:=Tryz.func82.trans (congrArg some (by kernel_rfl))
 f314:=Tryz.func94.trans (congrArg some (by kernel_rfl))
 t3:=Tryz.underlying3
 a3:=Tryz.isAgg3
 z3:=Tryz.sizeOf3
 v3:=Tryz.zeroValue3
 t4:=Tryz.underlying4
 a4:=Tryz.isAgg4
 z4:=Tryz.sizeOf4
 v4:=Tryz.zeroValue4
 t5:=Tryz.underlying5
 a5:=Tryz.isAgg5
 z5:=Tryz.sizeOf5
 v5:=Tryz.zeroValue5
 t9:=Tryz.underlying9
 a9:=Tryz.isAgg9
 z9:=Tryz.sizeOf9
 v9:=Tryz.zeroValue9
 t46:=Tryz.underlying101
 a46:=Tryz.isAgg101
 z46:=Tryz.sizeOf101
 v46:=Tryz.zeroValue101
 t51:=Tryz.underlying115
 a51:=Tryz.isAgg115
 z51:=Tryz.sizeOf115
 v51:=Tryz.zeroValue115
 t146:=Tryz.underlying116
 a146:=Tryz.isAgg116
 z146:=Tryz.sizeOf116
 v146:=Tryz.zeroValue116
 g1:=by kernel_rfl}
open Go.RowKit Go.Lib in
theorem Tryz.strings_Index(s sub:ByteArray)(m:Int)(w:World)(hs:s.size<4294967281)(a:w.cell? ⟨4,0,none⟩=some (.int .i64 m)):
  Calls Tryz.prog 52 #[.string s,.string sub] w fun e w'=>e= .returned (.int .i64 (Lib.index s.data.toList sub.data.toList))/\w'=w:=Any.strings_Index Z6 s sub m w hs a
def Z9:Go.Shelf.Ren:=⟨fun|144=>70|143=>52|219=>69|217=>79|225=>80|224=>81|267=>82|266=>93|314=>94|n=>n,fun|9=>9|4=>4|3=>3|5=>5|46=>101|146=>116|51=>115|n=>n,fun|1=>4|n=>n⟩
theorem Z8:Go.Proofs.Lays.n144 Tryz.prog Z9:={
 mixed:=by kernel_rfl
 f143:=Tryz.func52.trans (congrArg some (by kernel_rfl))
 f144:=Tryz.func70.trans (congrArg some (by kernel_rfl))
 f217:=Tryz.func79.trans (congrArg some (by kernel_rfl))
 f219:=Tryz.func69.trans (congrArg some (by kernel_rfl))
 f224:=Tryz.func81.trans (congrArg some (by kernel_rfl))
 f225:=Tryz.func80.trans (congrArg some (by kernel_rfl))
 f266:=Tryz.func93.trans (congrArg some (by kernel_rfl))
 f267:=Tryz.func82.trans (congrArg some (by kernel_rfl))
 f314:=Tryz.func94.trans (congrArg some (by kernel_rfl))
 t3:=Tryz.underlying3
 a3:=Tryz.isAgg3
 z3:=Tryz.sizeOf3
 v3:=Tryz.zeroValue3
 t4:=Tryz.underlying4
 a4:=Tryz.isAgg4
 z4:=Tryz.sizeOf4
 v4:=Tryz.zeroValue4
 t5:=Tryz.underlying5
 a5:=Tryz.isAgg5
 z5:=Tryz.sizeOf5
 v5:=Tryz.zeroValue5
 t9:=Tryz.underlying9
 a9:=Tryz.isAgg9
 z9:=Tryz.sizeOf9
 v9:=Tryz.zeroValue9
 t46:=Tryz.underlying101
 a46:=Tryz.isAgg101
 z46:=Tryz.sizeOf101
 v46:=Tryz.zeroValue101
 t51:=Tryz.underlying115
 a51:=Tryz.isAgg115
 z51:=Tryz.sizeOf115
 v51:=Tryz.zeroValue115
 t146:=Tryz.underlying116
 a146:=Tryz.isAgg116
 z146:=Tryz.sizeOf116
 v146:=Tryz.zeroValue116
 g1:=by kernel_rfl}
open Go.RowKit Go.Lib in
theorem Tryz.strings_Contains(s sub:ByteArray)(m:Int)(w:World)(hs:s.size<4294967281)(a:w.cell? ⟨4,0,none⟩=some (.int .i64 m)):
  Calls Tryz.prog 70 #[.string s,.string sub] w fun e w'=>e= .returned (.bool (Lib.contains s.data.toList sub.data.toList))/\w'=w:=Any.strings_Contains Z8 s sub m w hs a
def aad:Go.Shelf.Ren:=⟨fun|197=>67|260=>78|n=>n,fun|9=>9|21=>21|3=>3|4=>4|5=>5|105=>88|119=>111|0=>0|46=>101|139=>114|138=>113|n=>n,fun|3=>5|4=>6|n=>n⟩
theorem aac:Go.Proofs.Lays.n197 Tryz.prog aad:={
 mixed:=by kernel_rfl
 f197:=Tryz.func67.trans (congrArg some (by kernel_rfl))
 f260:=Tryz.func78.trans (congrArg some (by kernel_rfl))
 t0:=Tryz.underlying0
 a0:=Tryz.isAgg0
 z0:=Tryz.sizeOf0
 v0:=Tryz.zeroValue0
 t3:=Tryz.underlying3
 a3:=Tryz.isAgg3
 z3:=Tryz.sizeOf3
 v3:=Tryz.zeroValue3
 t4:=Tryz.underlying4
 a4:=Tryz.isAgg4
 z4:=Tryz.sizeOf4
 v4:=Tryz.zeroValue4
 t5:=Tryz.underlying5
 a5:=Tryz.isAgg5
 z5:=Tryz.sizeOf5
 v5:=Tryz.zeroValue5
 t9:=Tryz.underlying9
 a9:=Tryz.isAgg9
 z9:=Tryz.sizeOf9
 v9:=Tryz.zeroValue9
 t21:=Tryz.underlying21
 a21:=Tryz.isAgg21
 z21:=Tryz.sizeOf21
 v21:=Tryz.zeroValue21
 t46:=Tryz.underlying101
 a46:=Tryz.isAgg101
 z46:=Tryz.sizeOf101
 v46:=Tryz.zeroValue101
 t105:=Tryz.underlying88
 a105:=Tryz.isAgg88
 z105:=Tryz.sizeOf88
 v105:=Tryz.zeroValue88
 t119:=Tryz.underlying111
 a119:=Tryz.isAgg111
 z119:=Tryz.sizeOf111
 t138:=Tryz.underlying113
 a138:=Tryz.isAgg113
 z138:=Tryz.sizeOf113
 v138:=Tryz.zeroValue113
 t139:=Tryz.underlying114
 a139:=Tryz.isAgg114
 z139:=Tryz.sizeOf114
 v139:=Tryz.zeroValue114
 g3:=by kernel_rfl
 g4:=by kernel_rfl}
open Go.RowKit Go.Lib in
theorem Tryz.utf8_DecodeRuneInString(s:ByteArray)(w:World)(a:Lib.Utf8Tabs 5 6 w):
  Calls Tryz.prog 67 #[.string s] w fun e w'=>e= .returned (.tuple #[.int .i32 (Lib.decodeGo s).1,.int .i64 (Lib.decodeGo s).2])/\Below w.heap.size w w':=Any.utf8_DecodeRuneInString aac s w a
end
end Go.Proofs
namespace Go.Proofs.YtdkchodgklpomaaGreatDoor
set_option maxRecDepth 100000
open Go.Value (int slice string bool pointer agg tuple func float iface nilIface)
open Go.IntKind (i64 u8 u64 i32 u32 u16 i8 i16)
open Go.FloatKind (f64)
open Go.Ending (returned panicked)
section
open Go
variable{I:a8}{S:St}{w:World}
theorem Sat.below{w':World}(h:Sat I S w)(e:RowKit.Below w.heap.size w w'):Sat I S w':=by
 obtain⟨f,g,i,d⟩:=h.lH;have l:∀b,b<w.heap.size->hp w b=hp w' b:=fun b c=>(e.block b c).symm;refine⟨⟨f,fun j=>ah.local (fun b a=>l b (d _ _ a).2) (g j),i,fun j b a=>⟨(d _ _ a).1,Nat.lt_of_lt_of_le (d _ _ a).2 e.size⟩⟩,fun b o k=>?_⟩;have m:=h.nr b o k;have c:b<w.heap.size:=by
  rcases Nat.lt_or_ge b w.heap.size with h'|h'
  ·exact h'
  ·have:hp w b=none:=Array.getElem?_eq_none h';grind
 grind
theorem rK{P:Program}{f:FuncId}(C:aR)(c:∀x,C.pre x=[])(y:∀x,C.cond x->C.Y)(d:∀x h,C.b_ x (y x h))(a:∀x h,C.post x (y x h)=[])
  (h:∀(x:C.X)(F:ah)(I:a8)(w:World)(b:C.cond x),C.aO x F->Sat I (bC [F]) w->Calls P f ⟨C.args x⟩ w fun e w'=>e=C.val x (y x b)/\RowKit.Below w.heap.size w w'):kf P f C:=by
 refine⟨fun x F I w b j hs=>?_⟩;rw[c]at hs;refine(h x F I w b j hs).mono ?_;rintro e w' ⟨i,g⟩;exact⟨y x b,I,d x b,i,a8.le_refl I,by rw[a];exact hs.below g,g.os,g.output⟩
theorem Sat.wF{F:ah}(h:Sat I (bC [F]) w){a:Addr}{v:Value}(hl:aQ F a v):w.cell? a=some v:=Sat.look (j:=0) h hl
structure gj(F:ah):Prop where
 first:∀c,c<256->aQ F ⟨5,c,none⟩ (.int .u8 (Lib.firstT c))
 accLo:∀i,i<16->aQ F ⟨6,2*i,none⟩ (.int .u8 (Lib.accLo i))
 accHi:∀i,i<16->aQ F ⟨6,2*i+1,none⟩ (.int .u8 (Lib.accHi i))
theorem gj.sub{A B:ah}(h:gj A)(hs:Sub A B):gj B:=⟨fun c a=>(h.first c a).sub hs,fun i hi=>(h.accLo i hi).sub hs,fun i hi=>(h.accHi i hi).sub hs⟩
theorem gj.rest{bG:List Nat}{j:Nat}(a:j∉bG)(h:gj (gt S j)):gj (.du (rest S bG)):=⟨fun c b=>(h.first c b).rest a,fun i hi=>(h.accLo i hi).rest a,fun i hi=>(h.accHi i hi).rest a⟩
structure K6 where
 s:ByteArray
def GW:aR where
 X:=K6
 args x:=[ai x.s]
 aO _ F:=gj F
 val x _:=.returned (.tuple #[.int .i32 (Lib.decodeGo x.s).1,.int .i64 (Lib.decodeGo x.s).2])
theorem ack:aD 67 GW:=rK GW (fun _=>rfl) (fun _ _=>()) (fun _ _=>ao) (fun _ _=>rfl) fun x F I w _ a hs=>
 Go.Proofs.Tryz.utf8_DecodeRuneInString x.s w ⟨fun c b=>hs.wF (a.first c b),fun i hi=>⟨hs.wF (a.accLo i hi),hs.wF (a.accHi i hi)⟩⟩
theorem adN(s:ByteArray)(k:Nat):(s.get! k).toNat=bt s k:=by
 obtain⟨d⟩:=s;show(d[k]!).toNat=((d[k]?).map UInt8.toNat).getD 0;rw[getElem!_def];cases d[k]? <;> rfl
theorem abD(s:ByteArray)(i k:Nat):bt (s.extract i s.size) k=bt s (i+k):=by
 unfold bt;by_cases h:i+k<s.size
 ·rw[show(s.extract i s.size).data=s.data.extract i s.size from ByteArray.data_extract,Array.getElem?_extract];have:k<min s.size s.data.size-i:=by
   have:s.data.size=s.size:=rfl;omega
  grind
 ·rw[Array.getElem?_eq_none (show s.data.size<=i+k by have:s.data.size=s.size:=rfl;omega)];rw[Array.getElem?_eq_none (show(s.extract i s.size).data.size<=k by have:(s.extract i s.size).data.size=(s.extract i s.size).size:=rfl;rw[this,hT];omega)]
theorem Ui(n a b1 b2 b3:Nat)(b:a<256):(Lib.decodeN n a b1 b2 b3).1<=1114111:=by
 unfold Lib.decodeN
 repeat' split
 all_goals omega
theorem acj(s:ByteArray):(Lib.decodeGo s).1<=1114111:=by
 unfold Lib.decodeGo;split
 ·omega
 ·rw[Lib.decode_at];exact Ui _ _ _ _ _ (UInt8.toNat_lt _)
theorem agO{s:ByteArray}{i:Nat}(h:i<s.size):c7 s i=bif (Lib.decodeGo (s.extract i s.size)).1==65533&&(Lib.decodeGo (s.extract i s.size)).2==1 then none else some ((Lib.decodeGo (s.extract i s.size)).1,(Lib.decodeGo (s.extract i s.size)).2):=by
 have a:(s.extract i s.size).size=s.size-i:=by simp[*]
 have b:Lib.decodeGo (s.extract i s.size)=Lib.decodeN (s.size-i) (bt s i) (bt s (i+1)) (bt s (i+2)) (bt s (i+3)):=by
  unfold Lib.decodeGo;rw[if_neg ae,Lib.decode_at,a];simp only[adN,abD,Nat.sub_zero,Nat.add_zero,hU]
 unfold c7;simp[*]
theorem acl(n a b1 b2 b3:Nat)(h:1<=n):(Lib.decodeN n a b1 b2 b3).2<=n/\1<=(Lib.decodeN n a b1 b2 b3).2:=by
 unfold Lib.decodeN
 repeat' split
 all_goals omega
theorem kV{s:ByteArray}{i c n:Nat}(h:c7 s i=some (c,n)):i+n<=s.size/\1<=n/\c<=1114111:=by
 unfold c7 at h;by_cases hi:i<s.size
 ·rw[bw hi,aU]at h;have a:=acl (s.size-i) (bt s i) (bt s (i+1)) (bt s (i+2)) (bt s (i+3)) ae;have b:=Ui (s.size-i) (bt s i) (bt s (i+1)) (bt s (i+2)) (bt s (i+3)) (hF s i);grind
 grind
structure yo where
 s:ByteArray
 i:Int
def ia(A B:Type):S9 (A ⊕ B):=⟨A,B,Sum.inl,Sum.inr,fun y=>match y with| .inl a=>.inl ⟨a,rfl⟩| .inr b=>.inr ⟨b,rfl⟩⟩
def oX:aR where
 X:=yo
 Y:=(Nat×Nat) ⊕ Unit
 args x:=[ai x.s,ad x.i]
 cond x:=0<=x.i
 aO _ F:=gj F
 b_ x y:=match y with
  | .inl a=>c7 x.s x.i.toNat=some (a.1,a.2)
  | .inr _=>c7 x.s x.i.toNat=none
 val _ y:=match y with
  | .inl a=>.returned (.tuple #[.int .i64 a.1,.int .i64 a.2,.bool true])
  | .inr _=>.returned (.tuple #[.int .i64 0,.int .i64 0,.bool false])
 sum:=some (ia (Nat×Nat) Unit)
def I3(x:yo)(F:ah):=ar oX x F (ay (tuple ⟨[ad 0,ad 0,aj false]⟩)) [(0,F)]
def cP(F:ah):=aH [(0,F)] []
def Pm(b:K6)(x:yo)(F:ah):=bK (↑(Lib.decodeGo b.s).fst:Int)/\ar oX x F (ay (tuple ⟨[ad (↑(Lib.decodeGo b.s).fst:Int),ad (↑(Lib.decodeGo b.s).snd:Int),aj true]⟩)) [(0,F)]
theorem agR(x:yo)(F:ah)(p:oX.cond x)(q:oX.aO x F):aS (x.i<0) (I3 x F) (aS (x.i>=x.s.size) (I3 x F) ((0<=x.i/\x.i<=x.s.size/\(x.s.size:Int)<=(x.s.size:Int))/\aD 67 GW/\true=true/\∃(b:K6),[ai (x.s.extract x.i.toNat (x.s.size:Int).toNat)]=[ai b.s]/\([]:List ah)=[]/\True/\gj (cP F)/\∀(a:Unit),True->Br ((↑(Lib.decodeGo b.s).fst:Int)==65533) (Br ((↑(Lib.decodeGo b.s).snd:Int)==1) (I3 x F) (Pm b x F)) (Pm b x F))):=by
 delta I3 cP Pm aH bK ad ai aj aS ay;have l:0<=x.i:=p;have no:c7 x.s x.i.toNat=none->ar oX x F (returned (tuple #[.int .i64 0,.int .i64 0,.bool false])) [(0,F)]:=fun e=>⟨.inr (),e,rfl,aA [0]⟩;refine bo (fun h=>absurd h ae) (fun _=>bo (fun h=>no ?_) (fun h=>⟨⟨l,ae,cE _⟩,ack,rfl,⟨x.s.extract x.i.toNat x.s.size⟩,rfl,rfl,ao,gj.rest (j:=0) aL q,fun _ _=>?_⟩))
 ·unfold c7;grind
 have k:=agO (s:=x.s) (i:=x.i.toNat) ae;have g:=acj (x.s.extract x.i.toNat x.s.size);revert k g;generalize Lib.decodeGo (x.s.extract x.i.toNat x.s.size)=d;obtain⟨c,n⟩:=d;intro k g;have f:c7 x.s x.i.toNat=some (c,n)->ar oX x F (returned (tuple #[.int .i64 c,.int .i64 n,.bool true])) [(0,F)]:=fun e=>⟨.inl (c,n),e,rfl,aA [0]⟩;refine aG (fun m=>aG (fun o=>no ?_) (fun o=>⟨aK,f ?_⟩)) (fun m=>⟨aK,f ?_⟩)
 all_goals grind
theorem Bt:aD 49 oX:=fo 33 Tryz.func49 (fun _ _=>[(3,3,aX GW)]) [] aY aY bA [] agR
end
section
open Go
def bX(l:List Nat):List Value:=l.map fun(n:Nat)=>int .u8 (n:Int)
theorem CF(l:List Nat):(bX l).length=l.length:=by simp[bX]
theorem KR(a b:List Nat):bX (a++b)=bX a++bX b:=by simp[bX]
theorem Sz{l:List Nat}{u:Value}(h:u∈bX l):u.oneCell'=true:=by
 obtain⟨n,_,rfl⟩:=List.mem_map.1 h;rfl
theorem Xb(u:Nat):(↑u:Int).fdiv (2^min (Int.toNat 8) i64.bits)=((u/256:Nat):Int):=by
 show(↑u:Int).fdiv (256:Int)=_;grind
theorem FJ(u:Nat):u8.wrap (↑u:Int)=((u%256:Nat):Int):=by
 rfl
structure AU where
 r:Row
 l:List Nat
 u:Nat
def xY:aR where
 X:=AU
 Y:=Row
 args x:=[au x.r.a x.r.n x.r.cap,ad x.u]
 pre x:=[x.r.A]
 cond x:=bz 5 1 (bX x.l) x.r/\x.u<65536/\x.r.n<=4194304
 b_ x y:=bz 5 1 (bX (x.l++[x.u/256,x.u%256])) y/\y.n=x.r.n+2
 val _ y:=ay (au y.a y.n y.cap)
 post _ y:=[y.A]
def k7(z:pu):List Value:=[au z.r.a z.r.n z.r.cap,au z.a z.m z.c]
def T3(c:Oper)(aa:List Value)(pp:List ah)(rr:ah)(b:pu->Row->Prop):=e_ Tryz.prog c (dm (5:TypeId) 1 1)/\true=true/\∃(z:pu),aa=(k7 z)/\pp=[z.r.A]/\(bz 5 1 z.cs z.r/\z.ys.length=z.m*1/\(∀(w0:Value),w0∈z.ys->w0.oneCell'=true)/\(z.r.n+z.m)*1<=140737488355328/\z.r.n+z.m<=9223372036854775807/\(z.a=none->z.m=0/\z.c=0))/\(∀(w0:Addr),z.a=some w0->c_ rr w0 z.ys)/\∀(a:Row),bz 5 1 (z.cs++z.ys) a/\a.n=z.r.n+z.m/\(z.m=0->a=z.r)->b z a
def bI(c:Nat):Option Addr:=some ⟨c,0,none⟩
def Qc(x:AU):List Value:=[ba ((x.u:Int).fdiv ((2:Int)^min (Int.toNat (8:Int)) i64.bits)),ba (u8.wrap (x.u:Int))]
def kZ(a:Row):=au a.a a.n a.cap
theorem akR(x:AU)(F:ah)(k:xY.cond x)(m:xY.aO x F):(0<=(x.u:Int).fdiv ((2:Int)^min (Int.toNat (8:Int)) i64.bits)/\(x.u:Int).fdiv ((2:Int)^min (Int.toNat (8:Int)) i64.bits)<=255)/\∀(c:Nat),T3 (a7 Tryz.f103 1 7) [au x.r.a x.r.n x.r.cap,au (bI c) 2 2] [x.r.A] (aH [(0,x.r.A),(1,F),(2060,af c (Qc x) 5)] [0]) (fun b a=>ar xY x F (ay (kZ a)) [(0,a.A),(1,F),(2060,af c (Qc x) 5)]):=by
 delta k7 T3 bI Qc kZ aH ba au af ay;obtain⟨d,n,hn⟩:=k;have e1:(↑x.u:Int).fdiv (2^min (Int.toNat 8) i64.bits)=((x.u/256:Nat):Int):=Xb x.u;have e:u8.wrap (↑x.u:Int)=((x.u%256:Nat):Int):=FJ x.u;rw[e1,e];refine⟨aK,fun b=>bs (jN (P:=Tryz.prog) 1 1 rfl rfl rfl rfl rfl rfl rfl (by decide)) ⟨x.r,bX x.l,some ⟨b,0,none⟩,2,2,bX [x.u/256,x.u%256]⟩ ⟨d,rfl,fun _ h=>Sz h,by grind,by grind,aL⟩ (?_) (?_)⟩
 ·intro a i;cases i;exact c_.rest (j:=2060) aL (c_.cells (fun j u l=>by rw[hU];exact l))
 ·rintro y ⟨f,g,-⟩;exact⟨y,⟨by rw[KR];exact f,g⟩,rfl,aA [0,1]⟩
theorem SA:aD 103 xY:=fo 13 Tryz.func103 (fun _ _=>[(1,5,aW),(1,6,.n 2060),(1,7,d3 (dm 5 1 1))]) [] aY aY bA [] akR
structure K5 where
 a:Option Addr
 n:Nat
 cap:Nat
 l:List Nat
def yJ:aR where
 X:=K5
 args x:=[au x.a x.n x.cap]
 cond x:=jk 1 (bX x.l) x.a x.n
 aO x F:=lU F x.a (bX x.l)
 val x _:=ay (ai (cJ x.l))
theorem adB:∀(l:List Nat)(ef:List UInt8),(l.map fun(n:Nat)=>(n:Int)).foldl (fun(r:ByteArray)(n:Int)=>r.push (UInt8.ofNat n.toNat)) ⟨⟨ef⟩⟩=⟨⟨ef++l.map fun n=>UInt8.ofNat n⟩⟩:=by
 intro l
 induction l with
 |nil=>intro ef;simp
 |cons n l a=>
  simp[*]
theorem GN{P:Program}{o:Oper}{src dst e:TypeId}{x:Operand}(z:o.op= .convert src dst x)(hs:P.underlying src=some (.slice e))(B:P.underlying e=some (.int .u8))(hd:P.underlying dst=some .string):e_ P o yJ:=by
 refine⟨fun y F I w ρ A q t d=>?_⟩;obtain⟨a,n,cap,l⟩:=y;have q:jk 1 (bX l) a n:=q;have t:lU F a (bX l):=t;simp only[z,Op.operands,yJ]at A;have r:ρ x= .slice a n cap:=by grind
 have p:(Conv.bytesToString (.slice a n cap)).run P w= .ok (.string (cJ l)) w:=by
  have c:=q.len;rw[CF]at c;cases m:a with
  |none=>
   subst m;cases q with
   |nil h=>
    have:l=[]:=by cases l with|nil=>rfl|cons a l=>simp[bX]at h
    subst this;rfl
  |some g=>
   subst m;have f:∀i u,(bX l)[i]?=some u->w.cell? (g.add i)=some u:=fun i u hi=>d.wF (t g rfl i u hi);have hl:=run_loadCells_list (P:=P) w g (bX l) (fun j v C=>f j v C);rw[CF,c,Nat.mul_one]at hl;have s:(loadCells g n).run P w= .ok ((l.map fun(k:Nat)=>(k:Int)).map (int .u8)).toArray w:=by
    rw[hl];simp[bX,Function.comp_def]
   rw[run_bytesToString w g n cap _ s];have:=adB l [];rw[List.nil_append]at this;exact congrArg (fun b=>Result.ok (string b) w) this
 refine⟨(),I,w,.string (cJ l),ao,.inl ?_,rfl,a8.le_refl I,d,cv.refl w⟩;simp only[execOp,z,r];show((convert src dst (.slice a n cap))>>=fun v=>(pure (Next.value v):Sem Next)).run P w=_;rw[Sem.run_bind,run_convert_bytes_string w src dst e a n cap hs B hd,p];rfl
theorem aaO{d:Nat}(h:d<2^63):i64.wrap (↑(BitVec.ofInt i64.bits (d:Int)&&& BitVec.ofInt i64.bits 1023).toNat:Int)=((d%1024:Nat):Int):=by
 show i64.wrap (↑((BitVec.ofNat 64 d&&& BitVec.ofNat 64 1023:BitVec 64).toNat):Int)=_;have:(BitVec.ofNat 64 d&&& BitVec.ofNat 64 1023).toNat=d%1024:=by
  rw[BitVec.toNat_and,BitVec.toNat_ofNat,BitVec.toNat_ofNat];have a:d%2^64=d:=Nat.mod_eq_of_lt ae;rw[a];exact Nat.and_two_pow_sub_one_eq_mod d 10
 rw[this];exact dG (i:=.i64) aK
theorem acm(n a b1 b2 b3:Nat)(h:a<256):(Lib.decodeN n a b1 b2 b3).1>65535->4<=(Lib.decodeN n a b1 b2 b3).2:=by
 unfold Lib.decodeN
 repeat' split
 all_goals omega
theorem agS{s:ByteArray}{i c n:Nat}(h:c7 s i=some (c,n))(b:c>65535):4<=n:=by
 unfold c7 at h;by_cases hi:i<s.size
 ·rw[bw hi,aU]at h;have a:=acm (s.size-i) (bt s i) (bt s (i+1)) (bt s (i+2)) (bt s (i+3)) (hF s i);grind
 grind
structure fe where
 s:ByteArray
def An:aR where
 X:=fe
 Y:=Int×Int
 args x:=[ai x.s]
 cond x:=x.s.size<=1048576
 aO _ F:=gj F
 val x y:=.returned (.tuple #[.string (bx x.s),.int .i64 y.1,.int .i64 y.2])
structure AW where
 r:Row
 o:List Nat
 i:Nat
 f:Nat
def alg(x:fe)(F:ah):Nat->Option Inv:=fun
 |0=>some {X:=AW,P:=fun d=>bz 5 1 (bX d.o) d.r/\d.i<=x.s.size/\d.r.n<=2*d.i/\x.s.size<d.i+d.f/\mt x.s (x.s.size+1) 0 []=mt x.s d.f d.i d.o,mu:=fun d=>x.s.size-d.i,lv:=fun d=>[(0,ai x.s),(5,au d.r.a d.r.n d.r.cap),(6,ad d.i)],st:=fun d=>[d.r.A,F]}
 |_=>none
def T4(b:Oper)(aa:List Value)(a:FT->Nat->Prop):=e_ Tryz.prog b (u0 (5:TypeId) [ba 0] 1)/\true=true/\∃(z:FT),aa=[ad z.n,ad z.c]/\([]:List ah)=[]/\(0<=z.n/\z.n<=z.c/\z.c*(↑(1:Nat):Int)<=281474976710656/\z.c<=9223372036854775807)/\True/\∀(c:Nat),True->a z c
def Iu(z:AW)(e0:fe):=bz 5 1 (bX z.o) z.r/\z.i<=e0.s.size/\z.r.n<=2*z.i/\e0.s.size<z.i+z.f/\mt e0.s (e0.s.size+1) 0 []=mt e0.s z.f z.i z.o
def T5(aa:List Value)(rr:ah)(b:yo->Nat×Nat->Prop)(k1:yo->Unit->Prop):=aD 49 oX/\true=true/\∃(z:yo),aa=[ai z.s,ad z.i]/\([]:List ah)=[]/\0<=z.i/\gj rr/\(∀(a:Nat×Nat),c7 z.s z.i.toNat=some (a.fst,a.snd)->b z a)/\∀(c:Unit),c7 z.s z.i.toNat=none->k1 z c
def T6(aa:List Value)(pp:List ah)(b:AU->Row->Prop):=aD 103 xY/\true=true/\∃(z:AU),aa=[au z.r.a z.r.n z.r.cap,ad ↑z.u]/\pp=[z.r.A]/\(bz 5 1 (bX z.l) z.r/\z.u<65536/\z.r.n<=4194304)/\True/\∀(a:Row),bz 5 1 (bX (z.l++[z.u/256,z.u%256])) a/\a.n=z.r.n+2->b z a
def T7(e0:fe)(e1:ah)(v0 v1:Value)(a:St)(mm:Nat):=∃(z:AW),Iu z e0/\(ai e0.s=ai e0.s/\v0=au z.r.a z.r.n z.r.cap/\v1=ad ↑z.i/\True)/\aE a [(0,z.r.A),(1,e1)]/\e0.s.size-z.i<mm
def QV(i:AW)(f:Nat×Nat)(x:fe)(F:ah):AU->Row->Prop:=fun c b=>bK ((i.i:Int)+(f.snd:Int))/\T7 x F (kZ b) (ad ((i.i:Int)+(f.snd:Int))) [(0,b.A),(1,F)] (x.s.size-i.i)
def T8(b:Oper)(aa:List Value)(rr:ah)(a:K5->Unit->Prop):=e_ Tryz.prog b yJ/\true=true/\∃(z:K5),aa=[au z.a z.n z.cap]/\([]:List ah)=[]/\jk 1 (bX z.l) z.a z.n/\lU rr z.a (bX z.l)/\∀(c:Unit),True->a z c
theorem alh(x:fe)(F:ah)(s:An.cond x)(E:An.aO x F):bK (2*(x.s.size:Int))/\T4 (a7 Tryz.f88 1 3) [ad 0,ad (2*(x.s.size:Int))] (fun k j=>(∃(a:AW),Iu a x/\(ai x.s=ai x.s/\au (bI j) k.n.toNat k.c.toNat=au a.r.a a.r.n a.r.cap/\ad 0=ad ↑a.i/\True)/\aE [(0,F),(1,af j (iu [ba 0] k.c.toNat) 5)] [(0,a.r.A),(1,F)])/\aT fun(i:AW)_=>Iu i x->aS ((i.i:Int)<(x.s.size:Int)) (T5 [ai x.s,ad ↑i.i] (aH [(0,i.r.A),(1,F)] []) (fun g f=>aS ((f.fst:Int)>65535) (((-9223372036854775808:Int)<=(f.fst:Int)-65536/\(f.fst:Int)-65536<=(9223372036854775807:Int))/\bK (55296+((f.fst:Int)-65536).fdiv ((2:Int)^min (Int.toNat (10:Int)) i64.bits))/\T6 [au i.r.a i.r.n i.r.cap,ad (55296+((f.fst:Int)-65536).fdiv ((2:Int)^min (Int.toNat (10:Int)) i64.bits))] [i.r.A] (fun e d=>bK (56320+bV (↑(gY ((f.fst:Int)-65536)&&& gY (1023:Int)).toNat:Int))/\T6 [au d.a d.n d.cap,ad (56320+bV (↑(gY ((f.fst:Int)-65536)&&& gY (1023:Int)).toNat:Int))] [d.A] (QV i f x F))) (T6 [au i.r.a i.r.n i.r.cap,ad ↑f.fst] [i.r.A] (QV i f x F))) (fun g a=>ar An x F (ay (tuple ⟨[ai ⟨#[]⟩,ad ↑i.i,ad 10]⟩)) [(0,i.r.A),(1,F)])) (T8 (a7 Tryz.f88 12 1) [au i.r.a i.r.n i.r.cap] (aH [(0,i.r.A),(1,F)] []) (fun b a=>ar An x F (ay (tuple ⟨[ai (cJ b.l),ad 0,ad 0]⟩)) [(0,i.r.A),(1,F)]))):=by
 delta T4 Iu bI T5 T6 T7 kZ QV T8 aH bK ad ba ai au af gY bV aS ay aT;have hs:x.s.size<=1048576:=s;refine⟨aK,DW (P:=Tryz.prog) [.int .u8 0] 1 rfl rfl rfl rfl rfl rfl aL rfl,rfl,⟨0,2*x.s.size⟩,rfl,rfl,⟨cE 0,by grind,by grind,by grind⟩,ao,fun b _=>⟨⟨⟨⟨some ⟨b,0,none⟩,0,(2*(x.s.size:Int)).toNat,.cells b (iu [.int .u8 0] (2*(x.s.size:Int)).toNat) 5⟩,[],0,x.s.size+1⟩,⟨.fU b 0 _ (iu [.int .u8 0] _) rfl (by rw[dJ,SH];simp[bX]) (dq _),dq _,dq _,by simp[*],rfl⟩,aV,aA [1,0]⟩,?_⟩⟩;rintro⟨r,o,i,f⟩ H ⟨p,z,A,B,q⟩;dsimp only at p z A B q⊢;refine bo (fun D=>bs Bt ⟨x.s,i⟩ (by simp[*]) (gj.rest (j:=1) aL E) ⟨?_,?_⟩) (fun C=>bs (GN rfl rfl rfl rfl) ⟨r.a,r.n,r.cap,o⟩ p.src (Sa 0 aL rfl p) fun _ _=>⟨(0,0),ao,?_,aA [1]⟩)
 ·rintro⟨c,n⟩ l;have l:c7 x.s (i:Int).toNat=some (c,n):=l;rw[cy]at l;obtain⟨t,f2,f3⟩:=kV l;obtain⟨m,rfl⟩:∃m,f=m+1:=⟨f-1,ae⟩;have step:mt x.s (m+1) i o=mt x.s m (i+n) (o++iI c):=by
   rw[mt,bw (show i<x.s.size by omega),aU,l]
  dsimp only;refine bo (fun s=>?_) (fun s=>?_)
  ·have e1:55296+((↑c:Int)-65536).fdiv (2^min (Int.toNat 10) i64.bits)=((55296+(c-65536)/1024:Nat):Int):=by
    have:(↑c:Int)-65536=((c-65536:Nat):Int):=ae;rw[this];show 55296+((c-65536:Nat):Int).fdiv (1024:Int)=_;rw[Int.fdiv_eq_ediv_of_nonneg _ ae];omega
   have v:56320+i64.wrap (↑(BitVec.ofInt i64.bits ((↑c:Int)-65536)&&& BitVec.ofInt i64.bits 1023).toNat:Int)=((56320+(c-65536)%1024:Nat):Int):=by
    have:(↑c:Int)-65536=((c-65536:Nat):Int):=ae;rw[this,aaO ae];omega
   rw[e1,v];have w:iI c=[(55296+(c-65536)/1024)/256,(55296+(c-65536)/1024)%256]++[(56320+(c-65536)%1024)/256,(56320+(c-65536)%1024)%256]:=by
    unfold iI;grind
   refine⟨aK,aK,SA,rfl,⟨r,o,55296+(c-65536)/1024⟩,rfl,rfl,⟨p,by grind,by grind⟩,ao,fun y u=>⟨aK,SA,rfl,⟨y,_,56320+(c-65536)%1024⟩,rfl,rfl,⟨u.1,a_,by grind⟩,ao,fun y2 G=>⟨aK,⟨y2,o++iI c,i+n,m⟩,⟨?_,t,?_,by grind,q.trans step⟩,⟨rfl,rfl,by rfl,ao⟩,aA [0,1],by grind⟩⟩⟩
   ·grind
   ·have I:c>65535->4<=n:=fun h=>agS l h;grind
  ·have w:iI c=[c/256,c%256]:=by
    unfold iI;grind
   refine bO SA ⟨r,o,c⟩ ⟨p,by grind,by grind⟩ fun y u=>⟨aK,⟨y,o++iI c,i+n,m⟩,⟨by simp[*],t,by grind,by grind,q.trans step⟩,⟨rfl,rfl,by rfl,ao⟩,aA [0,1],by grind⟩
 ·intro _ l;have l:c7 x.s (i:Int).toNat=none:=l;rw[cy]at l;obtain⟨m,rfl⟩:∃m,f=m+1:=⟨f-1,ae⟩;refine⟨(i,10),ao,?_,aA [1]⟩;have:bx x.s=⟨#[]⟩:=by
   unfold bx;rw[q,mt,bw (show i<x.s.size by omega),aU,l];rfl
  show returned _=returned (.tuple #[.string (bx x.s),_,_]);rw[this]
 ·have:bx x.s=cJ o:=by
   unfold bx;rw[q];cases f with
   |zero=>rfl
   |succ f=>rw[mt,bF (show ¬i<x.s.size by omega)];rfl
  show returned _=returned (.tuple #[.string (bx x.s),_,_]);rw[this]
theorem XL:aD 88 An:=fo 49 Tryz.func88 (fun _ _=>[(1,3,.o (u0 5 [.int .u8 0] 1) [] [1]),(4,2,aX oX),(9,4,bv xY),(9,8,bv xY),(10,2,bv xY),(12,1,.o yJ [] [])]) [] alg aY bA [] alh
end
section
open Go
def wC:aR where
 X:=fe
 args x:=[ai x.s]
 cond x:=x.s.size<=1048576
 aO _ F:=gj F
 val x _:=ay (ai (bx x.s))
def XK(b:fe)(a:ah):List (Nat×Nat×OH):=[(1,1,aX An)]
def T9(aa:List Value)(rr:ah)(a:fe->Int×Int->Prop):=aD 88 An/\true=true/\∃(z:fe),aa=[ai z.s]/\([]:List ah)=[]/\z.s.size<=1048576/\gj rr/\∀(b:Int×Int),True->a z b
theorem aln(x:fe)(F:ah)(c:wC.cond x)(d:wC.aO x F):T9 [ai x.s] (cP F) (fun b a=>ar wC x F (ay (ai (bx b.s))) [(0,F)]):=by
 delta T9 cP aH ai ay;exact bs XL x c (gj.rest (j:=0) aL d) fun _ _=>iS
theorem KX:aD 73 wC:=fo 13 Tryz.func73 XK [] aY aY bA [] aln
theorem alx(x:fe)(F:ah)(c:wC.cond x)(d:wC.aO x F):T9 [ai x.s] (cP F) (fun b a=>ar wC x F (ay (ai (bx b.s))) [(0,F)]):=by
 delta T9 cP aH ai ay;exact bs XL x c (gj.rest (j:=0) aL d) fun _ _=>iS
theorem SF:aD 121 wC:=fo 13 Tryz.func121 XK [] aY aY bA [] alx
structure Gl(F:ah):Prop where
 pl:gj F
 mx:∃m,aQ F ⟨4,0,none⟩ (.int .i64 m)
 HB:∀i m,fh[i]?=some m->aQ F ⟨2,i,none⟩ (.string m)
theorem Gl.sub{A B:ah}(h:Gl A)(hs:Sub A B):Gl B:=⟨h.pl.sub hs,let ⟨m,a⟩:=h.mx;⟨m,a.sub hs⟩,fun i m a=>(h.HB i m a).sub hs⟩
theorem Gl.rest{S:St}{bG:List Nat}{j:Nat}(a:j∉bG)(h:Gl (gt S j)):Gl (.du (rest S bG)):=⟨h.pl.rest a,let ⟨m,b⟩:=h.mx;⟨m,b.rest a⟩,fun i m b=>(h.HB i m b).rest a⟩
structure gz where
 a:ByteArray
 b:ByteArray
def jt(s p:ByteArray):Bool:=decide (s.size>=p.size)&&(s.extract 0 p.size).toList==p.toList
def n8:aR where
 X:=gz
 args x:=[ai x.a,ai x.b]
 val x _:=ay (aj (jt x.a x.b))
theorem aeu(x:gz)(F:ah)(a:n8.cond x)(b:n8.aO x F):aS ((x.a.size:Int)>=(x.b.size:Int)) (((0:Int)<=(0:Int)/\0<=(x.b.size:Int)/\(x.b.size:Int)<=(x.a.size:Int))/\ar n8 x F (ay (aj ((x.a.extract (Int.toNat (0:Int)) (x.b.size:Int).toNat).toList==x.b.toList))) [(0,F)]) (ar n8 x F cQ [(0,F)]):=by
 delta dk cQ aj aS ay;have e0:(↑x.b.size:Int).toNat=x.b.size:=cy _;refine bo (fun h=>⟨⟨ae,ae,ae⟩,(),ao,k8 ?_,aA [0]⟩) (fun h=>⟨(),ao,k8 ?_,aA [0]⟩)
 ·unfold jt;grind
 ·unfold jt;grind
theorem aet:aD 68 n8:=fo 18 Tryz.func68 (fun _ _=>[]) [] aY aY bA [] aeu
def uB(a:FuncId)(aa:List Value)(b:gz->Unit->Prop):=aD a n8/\true=true/\∃(z:gz),aa=[ai z.a,ai z.b]/\([]:List ah)=[]/\True/\True/\∀(c:Unit),True->b z c
theorem aes(x:gz)(F:ah)(c:n8.cond x)(d:n8.aO x F):uB 68 [ai x.a,ai x.b] (fun b a=>ar n8 x F (ay (aj (jt b.a b.b))) [(0,F)]):=by
 delta uB ai aj ay;exact l6 aet x fun _ _=>iS
theorem DO:aD 50 n8:=fo 8 Tryz.func50 (fun _ _=>[(1,2,aX n8)]) [] aY aY bA [] aes
def Hs:aR where
 X:=gz
 args x:=[ai x.a,ai x.b]
 cond x:=x.a.size<=1048576
 aO _ F:=Gl F
 val x _:=ay (ad (Lib.index x.a.data.toList x.b.data.toList))
theorem RowKit.Below.of_eq{B:Nat}{w w':World}(h:w'=w):RowKit.Below B w w':=h▸RowKit.Below.refl B w
theorem ae5:aD 52 Hs:=rK Hs (fun _=>rfl) (fun _ _=>()) (fun _ _=>ao) (fun _ _=>rfl) fun x F I w a c hs=>by
 obtain⟨m,b⟩:=c.mx;have a:x.a.size<=1048576:=a;exact(Go.Proofs.Tryz.strings_Index x.a x.b m w ae (hs.wF b)).mono fun e w' h=>⟨h.1,RowKit.Below.of_eq h.2⟩
def DA:aR where
 X:=gz
 args x:=[ai x.a,ai x.b]
 cond x:=x.a.size<=1048576
 aO _ F:=Gl F
 val x _:=ay (aj (Lib.contains x.a.data.toList x.b.data.toList))
theorem Uc:aD 70 DA:=rK DA (fun _=>rfl) (fun _ _=>()) (fun _ _=>ao) (fun _ _=>rfl) fun x F I w a c hs=>by
 obtain⟨m,b⟩:=c.mx;have a:x.a.size<=1048576:=a;exact(Go.Proofs.Tryz.strings_Contains x.a x.b m w ae (hs.wF b)).mono fun e w' h=>⟨h.1,RowKit.Below.of_eq h.2⟩
variable{c:Nat}
theorem zi(h:c=10\/c=13\/c=8232\/c=8233):hX c=true:=by rcases h with rfl|rfl|rfl|rfl <;> rfl
theorem HG(e1:((c:Int)==10)=false)(a:((c:Int)==13)=false)(b:((c:Int)==8232)=false)(d:((c:Int)==8233)=false):hX c=false:=by
 have e1:=ff.1 e1;have a:=ff.1 a;have b:=ff.1 b;have d:=ff.1 d;unfold hX;grind
structure rP where
 l:cD
 s:ByteArray
structure fc where
 i:Nat
 f:Nat
 aI:Bool
def vj(x:rP):Option Addr:=some ⟨x.l.b,0,none⟩
def EO(x:rP):List Value:=[ai x.l.src,ad x.l.i,aj x.l.aI,au x.l.oa x.l.on x.l.oc]
def t7:aR where
 X:=rP
 args x:=[ag (vj x),ai x.s]
 pre x:=[af x.l.b (EO x) 68]
 cond x:=x.s.size<=1048576
 aO _ F:=Gl F
 val x _:=ay (aj (eS x.s (x.s.size+1) 0 x.l.aI).1)
 post x _:=[af x.l.b [ai x.l.src,ad x.l.i,aj (eS x.s (x.s.size+1) 0 x.l.aI).2,au x.l.oa x.l.on x.l.oc] 68]
def RX(x:rP)(d:fc):List Value:=[ai x.l.src,ad x.l.i,aj d.aI,au x.l.oa x.l.on x.l.oc]
def ajf(x:rP)(F:ah):Nat->Option Inv:=fun
 |0=>some {X:=fc,P:=fun d=>d.i<=x.s.size/\x.s.size<d.i+d.f/\eS x.s (x.s.size+1) 0 x.l.aI=eS x.s d.f d.i d.aI,mu:=fun d=>x.s.size-d.i,lv:=fun d=>[(0,ag (vj x)),(1,ai x.s),(5,ad d.i)],st:=fun d=>[af x.l.b (RX x d) 68,F]}
 |_=>none
def IV(z:fc)(e0:rP):=z.i<=e0.s.size/\e0.s.size<z.i+z.f/\eS e0.s (e0.s.size+1) 0 e0.l.aI=eS e0.s z.f z.i z.aI
def zw(e0:rP)(z:fc)(e1:ah):=[(0,af e0.l.b (RX e0 z) 68),(1,e1)]
def Ly(e0:rP)(e1:ah)(v0:Value)(a:St)(mm:Nat):=∃(z:fc),IV z e0/\(ag (vj e0)=ag (vj e0)/\ai e0.s=ai e0.s/\v0=ad ↑z.i/\True)/\aE a (zw e0 z e1)/\e0.s.size-z.i<mm
def Fa(x:rP)(e:fc)(b:Nat×Nat)(F:ah):=aw x.l.b 2/\bK ((e.i:Int)+(b.snd:Int))/\Ly x F (ad ((e.i:Int)+(b.snd:Int))) [(0,af x.l.b [ai x.l.src,ad x.l.i,aj true,au x.l.oa x.l.on x.l.oc] 68),(1,F)] (x.s.size-e.i)
theorem ajh(x:rP)(F:ah)(r:t7.cond x)(u:t7.aO x F):(∃(a:fc),IV a x/\(ag (vj x)=ag (vj x)/\ai x.s=ai x.s/\ad 0=ad ↑a.i/\True)/\aE [(0,af x.l.b (EO x) 68),(1,F)] (zw x a F))/\aT fun(e:fc)_=>IV e x->aS ((e.i:Int)<(x.s.size:Int)) (T5 [ai x.s,ad ↑e.i] (aH (zw x e F) []) (fun c b=>Br ((b.fst:Int)==10) (Fa x e b F) (Br ((b.fst:Int)==13) (Fa x e b F) (Br ((b.fst:Int)==8232) (Fa x e b F) (Br ((b.fst:Int)==8233) (Fa x e b F) (bK ((e.i:Int)+(b.snd:Int))/\Ly x F (ad ((e.i:Int)+(b.snd:Int))) (zw x e F) (x.s.size-e.i)))))) (fun c a=>ar t7 x F cQ (zw x e F))) (ar t7 x F gH (zw x e F)):=by
 delta IV vj EO RX zw T5 Ly Fa dk cQ gH aH aw bK ad ai aj ag au af aS ay aT;have hs:x.s.size<=1048576:=r;refine⟨⟨⟨0,x.s.size+1,x.l.aI⟩,⟨dq _,by simp[*],rfl⟩,aV,aA [0,1]⟩,?_⟩;rintro⟨i,f,aI⟩ v ⟨p,q,h⟩;dsimp only at p q h⊢;obtain⟨g,rfl⟩:∃g,f=g+1:=⟨f-1,ae⟩;refine bo (fun t=>bs Bt ⟨x.s,i⟩ (by simp[*]) (gj.rest (j:=1) aL u.pl) ⟨?_,?_⟩) (fun s=>⟨(),ao,k8 ?_,?_⟩)
 ·rintro⟨c,n⟩ d;have d:c7 x.s (i:Int).toNat=some (c,n):=d;rw[cy]at d;obtain⟨k,f2,f3⟩:=kV d;have step:eS x.s (g+1) i aI=eS x.s g (i+n) (aI||hX c):=by
   rw[eS,bw (show i<x.s.size by omega),aU,d]
  dsimp only;refine aG (fun e=>?_) (fun e1=>aG (fun e=>?_) (fun l=>aG (fun e=>?_) (fun m=>aG (fun e=>?_) (fun o=>?_))))
  case refine_5=>
   have hn:hX c=false:=HG e1 l m o;exact⟨aK,⟨i+n,g,aI⟩,⟨k,by grind,h.trans (by simp[*])⟩,⟨rfl,rfl,by rfl,ao⟩,aA [0,1],by grind⟩
  all_goals
   have hn:hX c=true:=zi (by grind);exact⟨al,aK,⟨i+n,g,true⟩,⟨k,by grind,h.trans (by simp[*])⟩,⟨rfl,rfl,by rfl,ao⟩,aA [0,1],by grind⟩
 ·intro _ d;have d:c7 x.s (i:Int).toNat=none:=d;rw[cy]at d;have e:eS x.s (x.s.size+1) 0 x.l.aI=(false,aI):=by
   rw[h,eS,bw (show i<x.s.size by omega),aU,d]
  exact⟨(),ao,k8 (by rw[e]),aE.pick [0,1] rfl (by rw[show t7.post x ()=_ from rfl];simp only[t7,e];rfl)⟩
 ·rw[h,eS,bF (show ¬i<x.s.size by omega)];rfl
 ·have e:eS x.s (x.s.size+1) 0 x.l.aI=(true,aI):=by
   rw[h,eS,bF (show ¬i<x.s.size by omega)];rfl
  exact aE.pick [0,1] rfl (by simp only[t7,e];rfl)
theorem ajg:aD 53 t7:=fo 42 Tryz.func53 (fun _ _=>[(3,2,aX oX)]) [(7,3,.w [LH.z00 (0:Nat)])] ajf aY bA [] ajh
end
section
open Go
theorem U8(s:ByteArray)(i:Nat)(t:List Nat)(m:∀b∈t,b<256)(hi:i<=s.size):dx s i t=(t.map fun n=>UInt8.ofNat n).isPrefixOf (s.data.toList.drop i):=by
 rw[Bool.eq_iff_iff,List.isPrefixOf_iff_prefix,List.prefix_iff_getElem?];unfold dx;rw[gX,decide_eq_true_eq,List.all_eq_true];have j:s.data.toList.length=s.size:=aL;constructor
 ·rintro⟨l,e⟩ k hk;have a:k<t.length:=by grind
  have:=e k (List.mem_range.2 a);rw[beq_iff_eq]at this;have c:i+k<s.data.toList.length:=ae;rw[List.getElem?_drop,fg c];congr 1;simp only[List.getElem_map];have g:bt s (i+k)=(s.data.toList[i+k]).toNat:=by
   unfold bt;grind
  rw[g,ft,fg a]at this;have f:s.data.toList[i+k].toNat=t[k]:=this;rw[<-f,UInt8.ofNat_toNat]
 ·intro h;have key:∀k(hk:k<t.length),i+k<s.size/\bt s (i+k)=t[k]:=by
   intro k hk;have:=h k (by simp[*]);rw[List.getElem?_drop]at this;simp only[List.getElem_map]at this;have c:i+k<s.data.toList.length:=by
    grind
   refine⟨ae,?_⟩;unfold bt;rw[<-Array.getElem?_toList,this];simp[*]
  refine⟨?_,fun k hk=>?_⟩
  ·rcases Nat.eq_zero_or_pos t.length with d|d
   ·omega
   ·have:=(key (t.length-1) ae).1;omega
  grind
theorem aer(s p:ByteArray):jt s p=p.data.toList.isPrefixOf s.data.toList:=by
 unfold jt;rw[Bool.eq_iff_iff,List.isPrefixOf_iff_prefix,gX,decide_eq_true_eq,beq_iff_eq];have hs:s.data.toList.length=s.size:=aL;have hp:p.data.toList.length=p.size:=aL;have e:(s.extract 0 p.size).toList=s.data.toList.take p.size:=by rw[ByteArray.toList_eq];simp
 rw[e,ByteArray.toList_eq,List.prefix_iff_eq_take,hp];grind
theorem DH(s:ByteArray)(i:Nat):(s.extract i s.size).data.toList=s.data.toList.drop i:=by
 rw[ByteArray.data_extract];have:s.data.size=s.size:=rfl;simp only[Array.toList_extract,List.extract_eq_take_drop];exact List.take_of_length_le aL
theorem NT{s:ByteArray}{i:Nat}{t:List Nat}(a:∀b∈t,b<256)(hi:i<=s.size):jt (s.extract i s.size) (cJ t)=dx s i t:=by
 rw[aer,U8 s i t a hi,DH];rfl
theorem index_ge(l sub:List UInt8): -1<=Lib.index l sub:=by
 induction l with
 |nil=>unfold Lib.index;split <;> omega
 |cons b l a=>unfold Lib.index;split;omega;split <;> omega
theorem aeH(s:ByteArray)(t:List Nat)(g:∀b∈t,b<256):∀(f i:Nat),s.size<i+f->i<=s.size->
  n9 s t f i=if Lib.index (s.data.toList.drop i) (t.map fun n=>UInt8.ofNat n)= -1 then none else some (i+(Lib.index (s.data.toList.drop i) (t.map fun n=>UInt8.ofNat n)).toNat):=by
 intro f
 induction f with
 |zero=>intro i d c;omega
 |succ f h=>
  intro i d c;have hs:s.data.toList.length=s.size:=aL;rw[n9,U8 s i t g c];by_cases a:i<s.size
  ·have hd:s.data.toList.drop i=s.data.toList[i]'(ae)::s.data.toList.drop (i+1):=List.drop_eq_getElem_cons ae;rw[hd,bw a];unfold Lib.index;cases hp:(t.map fun n=>UInt8.ofNat n).isPrefixOf (s.data.toList[i]'(ae)::s.data.toList.drop (i+1))with
   |true=>simp
   |false=>
    rw[aN,aU,h (i+1) ae ae];have e:=index_ge (s.data.toList.drop (i+1)) (t.map fun n=>UInt8.ofNat n);generalize Lib.index (s.data.toList.drop (i+1)) (t.map fun n=>UInt8.ofNat n)=q at*;by_cases j:q= -1
    all_goals grind
  ·have hd:s.data.toList.drop i=[]:=List.drop_eq_nil_of_le ae;rw[hd,bF a];unfold Lib.index;grind
theorem aeQ(l sub:List UInt8):Lib.index l sub+sub.length<=l.length\/Lib.index l sub= -1:=by
 induction l with
 |nil=>
  unfold Lib.index;grind
 |cons b l a=>
  unfold Lib.index;grind
variable{c:Nat}
theorem akf(h:c=9\/c=11\/c=12\/c=32\/c=160\/c=65279):sh c=true:=by rcases h with rfl|rfl|rfl|rfl|rfl|rfl <;> rfl
theorem akc(e1:((c:Int)==9)=false)(a:((c:Int)==11)=false)(b:((c:Int)==12)=false)(d:((c:Int)==32)=false)(e:((c:Int)==160)=false)(f:((c:Int)==65279)=false):sh c=false:=by
 have e1:=ff.1 e1;have a:=ff.1 a;have b:=ff.1 b;have d:=ff.1 d;have e:=ff.1 e;have f:=ff.1 f;unfold sh;rw[ff.2 (show c≠9 by omega),ff.2 (show c≠11 by omega),ff.2 (show c≠12 by omega),ff.2 (show c≠32 by omega),ff.2 (show c≠160 by omega),ff.2 (show c≠65279 by omega)];rfl
end
section
open Go
theorem ai8(s:ByteArray):∀(f g i:Nat)(aI:Bool),s.size<i+f->s.size<i+g->eS s f i aI=eS s g i aI:=by
 intro f
 induction f with
 |zero=>
  intro g i aI a b;cases g with
  |zero=>rfl
  |succ g=>rw[eS,eS,bF (show ¬i<s.size by omega)];rfl
 |succ f d=>
  intro g i aI a b;cases g with
  |zero=>rw[eS,eS,bF (show ¬i<s.size by omega)];rfl
  |succ g=>
   rw[eS,eS];by_cases hi:i<s.size
   ·rw[bw hi,aU,aU];cases hn:c7 s i with
    |none=>rfl
    |some p=>
     obtain⟨c,n⟩:=p;have:=kV hn;grind
   simp[*]
def oZ(x:cD):List Value:=[ai x.src,ad x.i,aj x.aI,au x.oa x.on x.oc]
def pH:aR where
 X:=cD
 args x:=[ag (gu x)]
 pre x:=[af x.b (oZ x) 68]
 cond x:=0<=x.i/\x.i<=x.src.size/\x.src.size<=1048576
 aO _ F:=Gl F
 val x _:=ay (ad (cT x.src (x.src.size+1) x.i.toNat x.aI).1)
 post x _:=[af x.b [ai x.src,ad ((cT x.src (x.src.size+1) x.i.toNat x.aI).2.1:Nat),aj (cT x.src (x.src.size+1) x.i.toNat x.aI).2.2,au x.oa x.on x.oc] 68]
structure jI where
 i:Nat
 f:Nat
 aI:Bool
 k:Nat
def TN:(T:Type)×(fc×jI->T):=⟨jI,fun d=>d.2⟩
def abo(x:cD)(F:ah):Nat->Option Inv:=fun
 |0=>some {X:=jI,P:=fun d=>d.i<=x.src.size/\x.src.size<d.i+d.f/\cT x.src (x.src.size+1) x.i.toNat x.aI=cT x.src d.f d.i d.aI,mu:=fun d=>x.src.size-d.i,lv:=fun d=>[(0,ag (gu x))],st:=fun d=>[af x.b [ai x.src,ad d.i,aj d.aI,au x.oa x.on x.oc] 68,F]}
 |3=>some {X:=fc×jI,P:=fun d=>d.2.i<=d.1.i/\d.1.i<=x.src.size/\x.src.size<d.1.i+d.1.f/\fT x.src (x.src.size+1) d.2.i=fT x.src d.1.f d.1.i,mu:=fun d=>x.src.size-d.1.i,lv:=fun d=>[(0,ag (gu x))],st:=fun d=>[af x.b [ai x.src,ad d.1.i,aj d.2.aI,au x.oa x.on x.oc] 68,F],gh:=some TN}
 |_=>none
def IB(z:jI)(e0:cD):=z.i<=e0.src.size/\e0.src.size<z.i+z.f/\cT e0.src (e0.src.size+1) e0.i.toNat e0.aI=cT e0.src z.f z.i z.aI
def ER(e0:cD):=ag (gu e0)=ag (gu e0)/\True
def xt(x:cD)(F:ah):=[(0,af x.b (oZ x) 68),(1,F)]
def mg(e0:cD)(z:jI)(e1:ah):=[(0,af e0.b [ai e0.src,ad ↑z.i,aj z.aI,au e0.oa e0.on e0.oc] 68),(1,e1)]
def C9(e0:cD)(e1:ah)(a:St)(mm:Nat):=∃(z:jI),IB z e0/\ER e0/\aE a (mg e0 z e1)/\e0.src.size-z.i<mm
def E_(x:cD)(q:jI)(n:Nat×Nat)(F:ah):=aw x.b 2/\aw x.b 1/\bK ((q.i:Int)+(n.snd:Int))/\aw x.b 1/\C9 x F [(0,af x.b [ai x.src,ad ((q.i:Int)+(n.snd:Int)),aj true,au x.oa x.on x.oc] 68),(1,F)] (x.src.size-q.i)
def zN(x:cD)(q:jI)(n:Nat×Nat)(F:ah):=aw x.b 1/\bK ((q.i:Int)+(n.snd:Int))/\aw x.b 1/\C9 x F [(0,af x.b [ai x.src,ad ((q.i:Int)+(n.snd:Int)),aj q.aI,au x.oa x.on x.oc] 68),(1,F)] (x.src.size-q.i)
def tQ(z:cD):=0<=z.i/\z.i<=z.src.size/\z.src.size<=1048576
def Db(aa:List Value)(rr:ah)(a:cD->Unit->Prop):=aD 51 xC/\true=true/\∃(z:cD),aa=[ag (gu z)]/\([]:List ah)=[]/\tQ z/\px z rr/\∀(b:Unit),True->a z b
def Ik(a:fc×jI)(x:cD)(f:jI):=(a.snd.i<=a.fst.i/\a.fst.i<=x.src.size/\x.src.size<a.fst.i+a.fst.f/\fT x.src (x.src.size+1) a.snd.i=fT x.src a.fst.f a.fst.i)/\TN.snd a=f
def Cl(x:cD)(a:fc×jI)(F:ah):=[(0,af x.b [ai x.src,ad ↑a.fst.i,aj a.snd.aI,au x.oa x.on x.oc] 68),(1,F)]
def Cc(x:cD)(F:ah)(e:fc×jI)(q:jI):=C9 x F (Cl x e F) (x.src.size-q.i)
def IW(q:jI):=(-9223372036854775808:Int)<=(q.i:Int)+2/\(q.i:Int)+2<=(9223372036854775807:Int)
def sE:=ay (ad (-1))
theorem abr(x:cD)(F:ah)(hc:pH.cond x)(O:pH.aO x F):(∃(a:jI),IB a x/\ER x/\aE (xt x F) (mg x a F))/\aT fun(q:jI)_=>IB q x->true=true/\aw x.b 1/\aw x.b 0/\aS ((q.i:Int)<(x.src.size:Int)) (true=true/\aw x.b 0/\aw x.b 1/\T5 [ai x.src,ad ↑q.i] (aH (mg x q F) []) (fun o n=>Br ((n.fst:Int)==10) (E_ x q n F) (Br ((n.fst:Int)==13) (E_ x q n F) (Br ((n.fst:Int)==8232) (E_ x q n F) (Br ((n.fst:Int)==8233) (E_ x q n F) (Br ((n.fst:Int)==9) (zN x q n F) (Br ((n.fst:Int)==11) (zN x q n F) (Br ((n.fst:Int)==12) (zN x q n F) (Br ((n.fst:Int)==32) (zN x q n F) (Br ((n.fst:Int)==160) (zN x q n F) (Br ((n.fst:Int)==65279) (zN x q n F) (Db [ag (gu x)] (aH (mg x q F) []) (fun m l=>uB 50 [ai (m.src.extract m.i.toNat m.src.size),ai ⟨#[47,47]⟩] (fun k j=>Br (jt k.a k.b) (∃(f:jI),(∃(a:fc×jI),Ik a x f/\ER x/\aE (mg x q F) (Cl x a F))/\aT fun(e:fc×jI)_=>Ik e x f->true=true/\aw x.b 1/\aw x.b 0/\aS ((e.fst.i:Int)<(x.src.size:Int)) (true=true/\aw x.b 0/\aw x.b 1/\T5 [ai x.src,ad ↑e.fst.i] (aH (Cl x e F) []) (fun c b=>Br ((b.fst:Int)==10) (Cc x F e q) (Br ((b.fst:Int)==13) (Cc x F e q) (Br ((b.fst:Int)==8232) (Cc x F e q) (Br ((b.fst:Int)==8233) (Cc x F e q) (aw x.b 1/\bK ((e.fst.i:Int)+(b.snd:Int))/\aw x.b 1/\∃(a:fc×jI),Ik a x f/\ER x/\aE [(0,af x.b [ai x.src,ad ((e.fst.i:Int)+(b.snd:Int)),aj e.snd.aI,au x.oa x.on x.oc] 68),(1,F)] (Cl x a F)/\x.src.size-a.fst.i<x.src.size-e.fst.i))))) (fun c a=>aw x.b 1/\ar pH x F (ay (ad ↑e.fst.i)) (Cl x e F))) (Cc x F e q)) (Db [ag (gu x)] (aH (mg x q F) []) (fun i h=>uB 50 [ai (i.src.extract i.i.toNat i.src.size),ai ⟨#[47,42]⟩] (fun g f=>Br (jt g.a g.b) (true=true/\aw x.b 0/\aw x.b 1/\IW q/\(0<=(q.i:Int)+2/\(q.i:Int)+2<=(x.src.size:Int)/\(x.src.size:Int)<=(x.src.size:Int))/\aD 52 Hs/\true=true/\∃(e:gz),[ai (x.src.extract ((q.i:Int)+2).toNat (x.src.size:Int).toNat),ai ⟨#[42,47]⟩]=[ai e.a,ai e.b]/\([]:List ah)=[]/\e.a.size<=1048576/\Gl (aH (mg x q F) [])/\∀(d:Unit),True->true=true/\aS (Lib.index e.a.data.toList e.b.data.toList<0) (aw x.b 1/\ar pH x F (ay (ad ↑q.i)) (mg x q F)) (aw x.b 0/\aw x.b 1/\IW q/\aw x.b 1/\IW q/\bK ((q.i:Int)+2+Lib.index e.a.data.toList e.b.data.toList)/\(0<=(q.i:Int)+2/\(q.i:Int)+2<=(q.i:Int)+2+Lib.index e.a.data.toList e.b.data.toList/\(q.i:Int)+2+Lib.index e.a.data.toList e.b.data.toList<=x.src.size)/\aD 53 t7/\true=true/\∃(c:rP),[ag (gu x),ai (x.src.extract ((q.i:Int)+2).toNat ((q.i:Int)+2+Lib.index e.a.data.toList e.b.data.toList).toNat)]=[ag (vj c),ai c.s]/\[af x.b [ai x.src,ad ↑q.i,aj q.aI,au x.oa x.on x.oc] 68]=[af c.l.b (EO c) 68]/\c.s.size<=1048576/\Gl (aH (mg x q F) [0])/\∀(b:Unit),True->Br (!(eS c.s (c.s.size+1) 0 c.l.aI).fst) (ed ⟨x.b,1,none⟩ c.l.b/\ar pH x F (ay (ad c.l.i)) [(0,af c.l.b [ai c.l.src,ad c.l.i,aj (eS c.s (c.s.size+1) 0 c.l.aI).snd,au c.l.oa c.l.on c.l.oc] 68),(1,F)]) (ed ⟨x.b,1,none⟩ c.l.b/\((-9223372036854775808:Int)<=Lib.index e.a.data.toList e.b.data.toList+4/\Lib.index e.a.data.toList e.b.data.toList+4<=(9223372036854775807:Int))/\bK (c.l.i+(Lib.index e.a.data.toList e.b.data.toList+4))/\ed ⟨x.b,1,none⟩ c.l.b/\C9 x F [(0,af c.l.b [ai c.l.src,ad (c.l.i+(Lib.index e.a.data.toList e.b.data.toList+4)),aj (eS c.s (c.s.size+1) 0 c.l.aI).snd,au c.l.oa c.l.on c.l.oc] 68),(1,F)] (x.src.size-q.i)))) (ar pH x F sE (mg x q F)))))))))))))))))) (fun o a=>aw x.b 1/\ar pH x F (ay (ad ↑q.i)) (mg x q F))) (ar pH x F sE (mg x q F)):=by
 delta IB gu ER oZ xt mg T5 C9 E_ zN tQ Db uB Ik Cl Cc IW vj EO sE aH aw bK ad ai aj ag au af aS ay aT;obtain⟨h0,hle,hs⟩:=hc;refine⟨⟨⟨x.i.toNat,x.src.size+1,x.aI,0⟩,⟨a_,a_,rfl⟩,⟨rfl,ao⟩,aE.pick [0,1] rfl (by dsimp only;rw[Int.toNat_of_nonneg h0];rfl)⟩,?_⟩;rintro⟨i,f,aI,k0⟩ js ⟨N,h2,G⟩;dsimp only at N h2 G⊢;have fin:∀{p:Int}{j:Nat}{M:Bool},cT x.src f i aI=(p,j,M)->ar pH x F (returned (int i64 p)) [(0,ah.cells x.b [string x.src,int i64 (j:Int),bool M,slice x.oa x.on x.oc] 68),(1,F)]:=fun{p j M}e=>by
  have U:=G.trans e;exact⟨(),ao,by show returned _=returned (.int .i64 (cT x.src (x.src.size+1) x.i.toNat x.aI).1);rw[U],aE.pick [0,1] rfl (by simp only[pH,U];rfl)⟩
 obtain⟨v,rfl⟩:∃v,f=v+1:=⟨f-1,ae⟩;refine⟨rfl,al,al,bo (fun U3=>⟨rfl,al,al,Bt,rfl,⟨x.src,i⟩,rfl,rfl,a_,gj.rest (j:=1) aL O.pl,?_,?_⟩) (fun Hj=>fin (by rw[cT,bF (show ¬i<x.src.size by omega)];rfl))⟩
 ·rintro⟨c,n⟩ u;have u:c7 x.src (i:Int).toNat=some (c,n):=u;rw[cy]at u;obtain⟨W,f2,f3⟩:=kV u;have go:cT x.src (v+1) i aI=bif hX c then cT x.src v (i+n) true else bif sh c then cT x.src v (i+n) aI else bif dx x.src i [47,47] then bif (fT x.src (x.src.size+1) i).2 then cT x.src v (fT x.src (x.src.size+1) i).1 aI else ((fT x.src (x.src.size+1) i).1,(fT x.src (x.src.size+1) i).1,aI) else bif dx x.src i [47,42] then (match n9 (x.src.extract (i+2) x.src.size) [42,47] (x.src.size+1) 0 with|none=>((i:Int),i,aI)|some k=>let r:=eS (x.src.extract (i+2) (i+2+k)) (x.src.size+1) 0 aI;bif r.1 then cT x.src v (i+k+4) r.2 else ((i:Int),i,r.2)) else (-1,i,aI):=by
   rw[cT,bw (show i<x.src.size by omega),aU,u]
   try rfl
  dsimp only;refine aG (fun e=>?_) (fun e1=>aG (fun e=>?_) (fun I=>aG (fun e=>?_) (fun P=>aG (fun e=>?_) (fun Q=>?_))))
  case refine_5=>
   have hn:hX c=false:=HG e1 I P Q;rw[hn,aN]at go;refine aG (fun e=>?_) (fun s1=>aG (fun e=>?_) (fun s2=>aG (fun e=>?_) (fun s3=>aG (fun e=>?_) (fun s4=>aG (fun e=>?_) (fun s5=>aG (fun e=>?_) (fun s6=>?_))))))
   case refine_7=>
    have E:sh c=false:=akc s1 s2 s3 s4 s5 s6;rw[E,aN]at go;have lx:∀{S:St}{b:Nat},gt S 0=ah.cells b [string x.src,int i64 (i:Int),bool aI,slice x.oa x.on x.oc] 68->px (cD.mk b x.src (i:Int) aI x.oa x.on x.oc) (.du (rest S [])):=fun Y=>⟨aQ.rest (j:=0) aL (by rw[Y];exact aQ.cells rfl),aQ.rest (j:=0) aL (by rw[Y];exact aQ.cells rfl)⟩;refine bs Sf ⟨x.b,x.src,i,aI,x.oa,x.on,x.oc⟩ ⟨a_,a_,hs⟩ (lx rfl) fun _ _=>l6 DO ⟨x.src.extract (i:Int).toNat x.src.size,⟨#[47,47]⟩⟩ fun _ _=>?_;dsimp only;have q1:jt (x.src.extract (i:Int).toNat x.src.size) {data:=#[(47:UInt8),(47:UInt8)]}=dx x.src i [47,47]:=by rw[cy];exact NT (t:=[47,47]) (by decide) N
    rw[q1];refine aG (fun T=>?_) (fun T=>?_)
    ·rw[T,aU]at go;refine⟨⟨i,v+1,aI,0⟩,⟨(⟨i,x.src.size+1,false⟩,⟨i,v+1,aI,0⟩),⟨⟨bZ _,N,a_,rfl⟩,rfl⟩,⟨rfl,ao⟩,aA [0,1]⟩,?_⟩;rintro⟨⟨i2,f2,l2⟩,d⟩ js2 ⟨⟨g1,X,g3,g4⟩,hd⟩;have hd:d=⟨i,v+1,aI,0⟩:=hd;subst hd;dsimp only at g1 X g3 g4⊢;obtain⟨A,rfl⟩:∃A,f2=A+1:=⟨f2-1,ae⟩;have out:i<i2->fT x.src (A+1) i2=(i2,true)->∃(y:jI),(y.i<=x.src.size/\x.src.size<y.i+y.f/\cT x.src (x.src.size+1) x.i.toNat x.aI=cT x.src y.f y.i y.aI)/\(pointer (some {block:=x.b,off:=0})=pointer (some {block:=x.b,off:=0})/\True)/\aE [(0,ah.cells x.b [string x.src,int i64 (i2:Int),bool aI,slice x.oa x.on x.oc] 68),(1,F)] [(0,ah.cells x.b [string x.src,int i64 (y.i:Int),bool y.aI,slice x.oa x.on x.oc] 68),(1,F)]/\x.src.size-y.i<x.src.size-i:=fun hi he=>by
      rw[g4,he]at go;exact⟨⟨i2,v,aI,0⟩,⟨X,a_,G.trans go⟩,⟨rfl,ao⟩,aA [0,1],a_⟩
     refine⟨rfl,al,al,bo (fun Z=>⟨rfl,al,al,Bt,rfl,⟨x.src,i2⟩,rfl,rfl,a_,gj.rest (j:=1) aL O.pl,?_,?_⟩) (fun J=>out ae (by rw[fT,bF (show ¬i2<x.src.size by omega)];rfl))⟩
     ·rintro⟨H,n2⟩ s;have s:c7 x.src (i2:Int).toNat=some (H,n2):=s;rw[cy]at s;obtain⟨k1,k2,k3⟩:=kV s;dsimp only;refine aG (fun e=>?_) (fun e1=>aG (fun e=>?_) (fun I=>aG (fun e=>?_) (fun P=>aG (fun e=>?_) (fun Q=>?_))))
      case refine_5=>
       have z:hX H=false:=HG e1 I P Q;refine⟨al,aK,al,(⟨i2+n2,A,false⟩,⟨i,v+1,aI,0⟩),⟨⟨a_,k1,a_,?_⟩,rfl⟩,⟨rfl,ao⟩,aE.pick [0,1] rfl (by dsimp only;rw[Int.natCast_add];rfl),a_⟩;rw[g4,fT,bw (show i2<x.src.size by omega),aU,s];show(bif hX H then _ else _)=_;rw[z,aN]
      all_goals
       have z:hX H=true:=zi (by have:=beq_iff_eq.1 e;omega);have hi:i<i2:=by
        rcases Nat.lt_or_ge i i2 with h|h
        ·exact h
        ·have:i2=i:=by omega
         rw[this,u]at s;cases s;rw[hn]at z;cases z
       refine out hi ?_;rw[fT,bw (show i2<x.src.size by omega),aU,s];show(bif hX H then _ else _)=_;rw[z,aU]
     ·intro _ s;have s:c7 x.src (i2:Int).toNat=none:=s;rw[cy]at s;have e:fT x.src (x.src.size+1) i=(i2,false):=by
       rw[g4,fT,bw (show i2<x.src.size by omega),aU,s]
      rw[e]at go;exact⟨al,fin go⟩
    ·rw[T,aN]at go;refine bs Sf ⟨x.b,x.src,i,aI,x.oa,x.on,x.oc⟩ ⟨a_,a_,hs⟩ (lx rfl) fun _ _=>l6 DO ⟨x.src.extract (i:Int).toNat x.src.size,⟨#[47,42]⟩⟩ fun _ _=>?_;dsimp only;have q2:jt (x.src.extract (i:Int).toNat x.src.size) {data:=#[(47:UInt8),(42:UInt8)]}=dx x.src i [47,42]:=by rw[cy];exact NT (t:=[47,42]) (by decide) N
     rw[q2];refine aG (fun w=>?_) (fun w=>?_)
     ·rw[w,aU]at go;have U1:i+2<=x.src.size:=by
       unfold dx at w;rw[gX,decide_eq_true_eq]at w;exact w.1
      have R:(x.src.extract (i+2) x.src.size).size=x.src.size-(i+2):=by rw[hT];omega
      have B:n9 (x.src.extract (i+2) x.src.size) [42,47] (x.src.size+1) 0=if Lib.index (x.src.extract (i+2) x.src.size).data.toList (ByteArray.mk #[42,47]).data.toList= -1 then none else some (0+(Lib.index (x.src.extract (i+2) x.src.size).data.toList (ByteArray.mk #[42,47]).data.toList).toNat):=aeH (x.src.extract (i+2) x.src.size) [42,47] (by decide) (x.src.size+1) 0 ae ae
      have L:(x.src.extract (i+2) x.src.size).data.toList.length=x.src.size-(i+2):=by rw[<-R];simp
      have K:Lib.index (x.src.extract (i+2) x.src.size).data.toList (ByteArray.mk #[42,47]).data.toList+(2:Nat)<=(x.src.extract (i+2) x.src.size).data.toList.length\/Lib.index (x.src.extract (i+2) x.src.size).data.toList (ByteArray.mk #[42,47]).data.toList= -1:=aeQ _ _;have J:=index_ge (x.src.extract (i+2) x.src.size).data.toList (ByteArray.mk #[42,47]).data.toList;rw[L]at K;have V:((i:Int)+2).toNat=i+2:=ae;refine⟨rfl,al,al,aK,⟨ae,ae,cE _⟩,ae5,rfl,⟨x.src.extract (i+2) x.src.size,⟨#[42,47]⟩⟩,by rw[V,cy],rfl,a_,Gl.rest (j:=1) aL O,fun _ _=>⟨rfl,?_⟩⟩;dsimp only;generalize Lib.index (x.src.extract (i+2) x.src.size).data.toList (ByteArray.mk #[42,47]).data.toList=q at*;refine bo (fun hq=>⟨al,fin ?_⟩) (fun hq=>?_)
      ·rw[go,B,if_pos ae]
      ·obtain⟨k,rfl⟩:∃k:Nat,q=k:=⟨q.toNat,ae⟩;have hk:k+2<=x.src.size-(i+2):=ae;rw[B,if_neg ae]at go;have I:((i:Int)+2+(k:Int)).toNat=i+2+k:=ae;have er:eS (x.src.extract (i+2) (i+2+k)) (x.src.size+1) 0 aI=eS (x.src.extract (i+2) (i+2+k)) ((x.src.extract (i+2) (i+2+k)).size+1) 0 aI:=ai8 _ _ _ _ _ (by rw[hT];omega) ae;have C:cT x.src (v+1) i aI=bif (eS (x.src.extract (i+2) (i+2+k)) ((x.src.extract (i+2) (i+2+k)).size+1) 0 aI).1 then cT x.src v (i+k+4) (eS (x.src.extract (i+2) (i+2+k)) ((x.src.extract (i+2) (i+2+k)).size+1) 0 aI).2 else ((i:Int),i,(eS (x.src.extract (i+2) (i+2+k)) ((x.src.extract (i+2) (i+2+k)).size+1) 0 aI).2):=by
        rw[<-er,go];show(bif (eS (x.src.extract (i+2) (i+2+(0+(k:Int).toNat))) (x.src.size+1) 0 aI).1 then cT x.src v (i+(0+(k:Int).toNat)+4) _ else _)=_;rw[hU,cy]
       refine⟨al,al,aK,al,aK,aK,⟨ae,ae,ae⟩,ajg,rfl,⟨⟨x.b,x.src,i,aI,x.oa,x.on,x.oc⟩,x.src.extract (i+2) (i+2+k)⟩,by rw[V,I],rfl,by dsimp only;rw[hT];omega,Gl.rest (j:=1) aL O,fun _ _=>?_⟩;dsimp only;generalize eS (x.src.extract (i+2) (i+2+k)) ((x.src.extract (i+2) (i+2+k)).size+1) 0 aI=rr at*;obtain⟨ok,M⟩:=rr;dsimp only at C⊢;refine aG (fun D=>⟨al,fin ?_⟩) (fun D=>⟨al,aK,aK,al,⟨i+k+4,v,M,0⟩,⟨a_,a_,G.trans ?_⟩,⟨rfl,ao⟩,aE.pick [0,1] rfl (by dsimp only;rw[show((i+k+4:Nat):Int)=(i:Int)+((k:Int)+4) by omega];rfl),a_⟩)
       ·have:ok=false:=by simpa using D
        rw[C,this];rfl
       ·have:ok=true:=by simpa using D
        rw[C,this];rfl
     ·rw[w,aN]at go;exact fin go
   all_goals
    have E:sh c=true:=akf (by have:=beq_iff_eq.1 e;omega);rw[E,aU]at go;exact⟨al,aK,al,⟨i+n,v,aI,0⟩,⟨W,a_,G.trans go⟩,⟨rfl,ao⟩,aE.pick [0,1] rfl (by dsimp only;rw[Int.natCast_add];rfl),a_⟩
  all_goals
   have hn:hX c=true:=zi (by have:=beq_iff_eq.1 e;omega);rw[hn,aU]at go;exact⟨al,al,aK,al,⟨i+n,v,true,0⟩,⟨W,a_,G.trans go⟩,⟨rfl,ao⟩,aE.pick [0,1] rfl (by dsimp only;rw[Int.natCast_add];rfl),a_⟩
 ·intro _ u;have u:c7 x.src (i:Int).toNat=none:=u;rw[cy]at u;exact⟨al,fin (by rw[cT,bw (show i<x.src.size by omega),aU,u])⟩
theorem abp:aD 35 pH:=fo 204 Tryz.func35 (fun _ _=>[(2,8,aX oX),(11,1,aX xC),(11,2,aX n8),(13,8,aX oX),(18,1,aX xC),(18,2,aX n8),(19,10,aX Hs),(20,21,bv t7),(21,3,aP 0),(22,3,aP 0),(22,9,.w [.z00 0])]) [(1,3,aP 0),(1,7,aP 0),(2,3,aP 0),(2,7,aP 0),(7,3,.w [LH.z00 (0:Nat)]),(10,3,aP 0),(12,3,aP 0),(19,3,aP 0),(5,3,aP 0),(8,3,aP 0),(10,8,.w [LH.z00 (0:Nat)]),(12,7,aP 0),(19,7,aP 0),(8,8,.w [LH.z00 (0:Nat)]),(13,3,aP 0),(20,7,aP 0),(13,7,aP 0),(20,11,aP 0),(17,3,aP 0),(15,3,aP 0),(20,16,aP 0),(17,8,.w [LH.z00 (0:Nat)])] abo aY bA [] abr
end
section
open Go
def gM(b:Nat):Bool:=fX b||bM b
def DT:aR:=wn gM
def AH(aa:List Value)(a:nO->Unit->Prop):=aD 55 sn/\true=true/\∃(z:nO),aa=[ba ↑z.c]/\([]:List ah)=[]/\z.c<256/\True/\∀(b:Unit),True->a z b
theorem afE(x:nO)(F:ah)(g:DT.cond x)(h:DT.aO x F):AH [ba ↑x.c] (fun d c=>Br (fX d.c) (ar DT x F gH [(0,F)]) (T0 [ba ↑x.c] (fun b a=>ar DT x F (ay (aj (bM b.c))) [(0,F)]))):=by
 delta AH gH T0 ba aj ay;have f:x.c<256:=g;refine bO N8 x f fun _ _=>aG (fun e=>⟨(),ao,k8 (by unfold gM;simp[*]),aA [0]⟩) (fun e=>bO wq x f fun _ _=>⟨(),ao,k8 (by unfold gM;simp[*]),aA [0]⟩)
theorem afD:aD 57 DT:=fo 9 Tryz.func57 (fun _ _=>[(1,1,aX sn),(1,4,aX pJ)]) [] aY aY bA [] afE
theorem WZ(s:ByteArray)(p:Nat->Bool):∀(f i:Nat),i<=s.size->i<=gv s p f i/\gv s p f i<=s.size:=by
 intro f
 induction f with
 |zero=>intro i h;exact⟨bZ _,h⟩
 |succ f a=>
  intro i h;rw[gv];grind
def Cs(bJ:Nat)(p:Nat->Bool):aR where
 X:=cD
 args x:=[.pointer (some ⟨x.b,0,none⟩),.func (.func bJ) #[] #[]]
 pre x:=[af x.b (oZ x) 68]
 cond x:=0<=x.i/\x.i<=x.src.size/\x.src.size<=1048576
 val x _:=ay (ai (x.src.extract x.i.toNat (bE x.src p x.i.toNat)))
 post x _:=[af x.b [ai x.src,ad (bE x.src p x.i.toNat:Nat),aj x.aI,au x.oa x.on x.oc] 68]
def Sh(bJ:Nat)(p:Nat->Bool)(x:cD)(F:ah):Nat->Option Inv:=fun
 |0=>some {X:=fc,P:=fun d=>x.i.toNat<=d.i/\d.i<=x.src.size/\x.src.size<d.i+d.f/\bE x.src p x.i.toNat=gv x.src p d.f d.i,mu:=fun d=>x.src.size-d.i,lv:=fun d=>[(0,.pointer (some ⟨x.b,0,none⟩)),(1,.func (.func bJ) #[] #[]),(5,.int .i64 x.i)],st:=fun d=>[af x.b [ai x.src,ad d.i,aj x.aI,au x.oa x.on x.oc] 68,F]}
 |_=>none
def Si(p:Nat->Bool)(b:cD)(a:ah):List (Nat×Nat×OH):=[(2,21,.c (wn p) [] [])]
def xF:aR:=Cs 57 gM
def IJ(x:cD)(a:fc):=x.i.toNat<=a.i/\a.i<=x.src.size/\x.src.size<a.i+a.f/\bE x.src gM x.i.toNat=gv x.src gM a.f a.i
def PC(x:cD):=ag (gu x)=ag (gu x)/\func (Fn.func 57) ⟨[]⟩ ⟨[]⟩=func (Fn.func 57) ⟨[]⟩ ⟨[]⟩/\ad x.i=ad x.i/\True
def qX(x:cD)(a:fc)(F:ah):=[(0,af x.b [ai x.src,ad ↑a.i,aj x.aI,au x.oa x.on x.oc] 68),(1,F)]
def Cm(e:fc)(x:cD):=0<=(e.i:Int)/\(e.i:Int)<(x.src.size:Int)
def BU(e:fc):=(-9223372036854775808:Int)<=(e.i:Int)+1/\(e.i:Int)+1<=(9223372036854775807:Int)
def BV(x:cD)(e:fc)(F:ah):=[(0,af x.b [ai x.src,ad ((e.i:Int)+1),aj x.aI,au x.oa x.on x.oc] 68),(1,F)]
def BQ(x:cD)(e:fc):=0<=x.i/\x.i<=e.i/\(e.i:Int)<=(x.src.size:Int)
def BN(x:cD)(e:fc):=ay (ai (x.src.extract x.i.toNat (e.i:Int).toNat))
def Rt(x:cD)(e:fc)(F:ah):=true=true/\aw x.b 0/\aw x.b 1/\BQ x e/\ar xF x F (BN x e) (qX x e F)
theorem ajz(x:cD)(F:ah)(n:xF.cond x)(q:xF.aO x F):aw x.b 1/\(∃(a:fc),IJ x a/\PC x/\aE (xt x F) (qX x a F))/\aT fun(e:fc)_=>IJ x e->true=true/\aw x.b 1/\aw x.b 0/\aS ((e.i:Int)<(x.src.size:Int)) (aw x.b 0/\aw x.b 1/\Cm e x/\aD 57 (wn gM)/\true=true/\∃(c:nO),[ba (aF x.src (e.i:Int))]=[ba ↑c.c]/\([]:List ah)=[]/\c.c<256/\True/\∀(b:Unit),True->Br (gM c.c) (aw x.b 1/\BU e/\aw x.b 1/\∃(a:fc),IJ x a/\PC x/\aE (BV x e F) (qX x a F)/\x.src.size-a.i<x.src.size-e.i) (Rt x e F)) (Rt x e F):=by
 delta IJ gu PC oZ xt qX Cm BU BV BQ BN Rt aw ad ba ai aj ag au af aS ay aT;obtain⟨g,p,hs⟩:=n;refine⟨al,⟨⟨x.i.toNat,x.src.size+1,false⟩,⟨bZ _,by simp[*],by grind,rfl⟩,aV,aE.pick [0,1] rfl (by dsimp only;rw[Int.toNat_of_nonneg g];rfl)⟩,?_⟩;rintro⟨i,f,_⟩ r ⟨k,l,m,h⟩;dsimp only at k l m h⊢;obtain⟨d,rfl⟩:∃d,f=d+1:=⟨f-1,ae⟩;have fin:gv x.src gM (d+1) i=i->ar xF x F (returned (string (x.src.extract x.i.toNat (i:Int).toNat))) [(0,ah.cells x.b [string x.src,int i64 (i:Int),bool x.aI,slice x.oa x.on x.oc] 68),(1,F)]:=fun e=>
  ⟨(),ao,by show returned _=returned (.string (x.src.extract x.i.toNat (bE x.src gM x.i.toNat)));simp[*],aE.pick [0,1] rfl (by simp only[xF,Cs,h,e];rfl)⟩
 refine⟨rfl,al,al,bo (fun j=>⟨al,al,⟨ae,j⟩,afD,rfl,⟨bt x.src i⟩,by rw[gB,cy],rfl,hF _ _,ao,fun _ _=>aG (fun e=>?_) (fun e=>?_)⟩) (fun o=>⟨rfl,al,al,⟨g,ae,ae⟩,fin (by rw[gv,bF (show ¬i<x.src.size by omega)];rfl)⟩)⟩
 ·have e:gM (bt x.src i)=true:=e;exact⟨al,aK,al,⟨i+1,d,false⟩,⟨by grind,by grind,by grind,h.trans (by rw[gv,bw (show i<x.src.size by omega),e];rfl)⟩,aV,aE.pick [0,1] rfl (by rfl),by grind⟩
 ·have e:gM (bt x.src i)=false:=e;exact⟨rfl,al,al,⟨g,ae,ae⟩,fin (by rw[gv,bw (show i<x.src.size by omega),e];rfl)⟩
theorem ajy:aD 56 xF:=fo 50 Tryz.func56 (Si gM) [(1,3,aP 0),(2,3,aP 0),(2,7,aP 0),(2,15,aP 0),(4,3,aP 0),(2,19,aP 0),(4,8,aP 0),(3,3,aP 0),(3,7,.w [LH.z00 (0:Nat)])] (Sh 57 gM) aY bA [] ajz
def ua:aR:=Cs 58 bM
def IE(x:cD)(a:fc):=x.i.toNat<=a.i/\a.i<=x.src.size/\x.src.size<a.i+a.f/\bE x.src bM x.i.toNat=gv x.src bM a.f a.i
def PD(x:cD):=ag (gu x)=ag (gu x)/\func (Fn.func 58) ⟨[]⟩ ⟨[]⟩=func (Fn.func 58) ⟨[]⟩ ⟨[]⟩/\ad x.i=ad x.i/\True
def Rs(x:cD)(e:fc)(F:ah):=true=true/\aw x.b 0/\aw x.b 1/\BQ x e/\ar ua x F (BN x e) (qX x e F)
theorem ajx(x:cD)(F:ah)(n:ua.cond x)(q:ua.aO x F):aw x.b 1/\(∃(a:fc),IE x a/\PD x/\aE (xt x F) (qX x a F))/\aT fun(e:fc)_=>IE x e->true=true/\aw x.b 1/\aw x.b 0/\aS ((e.i:Int)<(x.src.size:Int)) (aw x.b 0/\aw x.b 1/\Cm e x/\aD 58 (wn bM)/\true=true/\∃(c:nO),[ba (aF x.src (e.i:Int))]=[ba ↑c.c]/\([]:List ah)=[]/\c.c<256/\True/\∀(b:Unit),True->Br (bM c.c) (aw x.b 1/\BU e/\aw x.b 1/\∃(a:fc),IE x a/\PD x/\aE (BV x e F) (qX x a F)/\x.src.size-a.i<x.src.size-e.i) (Rs x e F)) (Rs x e F):=by
 delta IE gu PD oZ xt qX Cm BU BV BQ BN Rs aw ad ba ai aj ag au af aS ay aT;obtain⟨g,p,hs⟩:=n;refine⟨al,⟨⟨x.i.toNat,x.src.size+1,false⟩,⟨bZ _,by simp[*],by grind,rfl⟩,aV,aE.pick [0,1] rfl (by dsimp only;rw[Int.toNat_of_nonneg g];rfl)⟩,?_⟩;rintro⟨i,f,_⟩ r ⟨k,l,m,h⟩;dsimp only at k l m h⊢;obtain⟨d,rfl⟩:∃d,f=d+1:=⟨f-1,ae⟩;have fin:gv x.src bM (d+1) i=i->ar ua x F (returned (string (x.src.extract x.i.toNat (i:Int).toNat))) [(0,ah.cells x.b [string x.src,int i64 (i:Int),bool x.aI,slice x.oa x.on x.oc] 68),(1,F)]:=fun e=>
  ⟨(),ao,by show returned _=returned (.string (x.src.extract x.i.toNat (bE x.src bM x.i.toNat)));simp[*],aE.pick [0,1] rfl (by simp only[ua,Cs,h,e];rfl)⟩
 refine⟨rfl,al,al,bo (fun j=>⟨al,al,⟨ae,j⟩,wq,rfl,⟨bt x.src i⟩,by rw[gB,cy],rfl,hF _ _,ao,fun _ _=>aG (fun e=>?_) (fun e=>?_)⟩) (fun o=>⟨rfl,al,al,⟨g,ae,ae⟩,fin (by rw[gv,bF (show ¬i<x.src.size by omega)];rfl)⟩)⟩
 ·have e:bM (bt x.src i)=true:=e;exact⟨al,aK,al,⟨i+1,d,false⟩,⟨by grind,by grind,by grind,h.trans (by rw[gv,bw (show i<x.src.size by omega),e];rfl)⟩,aV,aE.pick [0,1] rfl (by rfl),by grind⟩
 ·have e:bM (bt x.src i)=false:=e;exact⟨rfl,al,al,⟨g,ae,ae⟩,fin (by rw[gv,bw (show i<x.src.size by omega),e];rfl)⟩
theorem Sg:aD 56 ua:=fo 50 Tryz.func56 (Si bM) [(1,3,aP 0),(2,3,aP 0),(2,7,aP 0),(2,15,aP 0),(4,3,aP 0),(2,19,aP 0),(4,8,aP 0),(3,3,aP 0),(3,7,.w [LH.z00 (0:Nat)])] (Sh 58 bM) aY bA [] ajx
def xG:aR:=Cs 71 fC
def IF(x:cD)(a:fc):=x.i.toNat<=a.i/\a.i<=x.src.size/\x.src.size<a.i+a.f/\bE x.src fC x.i.toNat=gv x.src fC a.f a.i
def PE(x:cD):=ag (gu x)=ag (gu x)/\func (Fn.func 71) ⟨[]⟩ ⟨[]⟩=func (Fn.func 71) ⟨[]⟩ ⟨[]⟩/\ad x.i=ad x.i/\True
def Ru(x:cD)(e:fc)(F:ah):=true=true/\aw x.b 0/\aw x.b 1/\BQ x e/\ar xG x F (BN x e) (qX x e F)
theorem ajB(x:cD)(F:ah)(n:xG.cond x)(q:xG.aO x F):aw x.b 1/\(∃(a:fc),IF x a/\PE x/\aE (xt x F) (qX x a F))/\aT fun(e:fc)_=>IF x e->true=true/\aw x.b 1/\aw x.b 0/\aS ((e.i:Int)<(x.src.size:Int)) (aw x.b 0/\aw x.b 1/\Cm e x/\aD 71 (wn fC)/\true=true/\∃(c:nO),[ba (aF x.src (e.i:Int))]=[ba ↑c.c]/\([]:List ah)=[]/\c.c<256/\True/\∀(b:Unit),True->Br (fC c.c) (aw x.b 1/\BU e/\aw x.b 1/\∃(a:fc),IF x a/\PE x/\aE (BV x e F) (qX x a F)/\x.src.size-a.i<x.src.size-e.i) (Ru x e F)) (Ru x e F):=by
 delta IF gu PE oZ xt qX Cm BU BV BQ BN Ru aw ad ba ai aj ag au af aS ay aT;obtain⟨g,p,hs⟩:=n;refine⟨al,⟨⟨x.i.toNat,x.src.size+1,false⟩,⟨bZ _,by simp[*],by grind,rfl⟩,aV,aE.pick [0,1] rfl (by dsimp only;rw[Int.toNat_of_nonneg g];rfl)⟩,?_⟩;rintro⟨i,f,_⟩ r ⟨k,l,m,h⟩;dsimp only at k l m h⊢;obtain⟨d,rfl⟩:∃d,f=d+1:=⟨f-1,ae⟩;have fin:gv x.src fC (d+1) i=i->ar xG x F (returned (string (x.src.extract x.i.toNat (i:Int).toNat))) [(0,ah.cells x.b [string x.src,int i64 (i:Int),bool x.aI,slice x.oa x.on x.oc] 68),(1,F)]:=fun e=>
  ⟨(),ao,by show returned _=returned (.string (x.src.extract x.i.toNat (bE x.src fC x.i.toNat)));simp[*],aE.pick [0,1] rfl (by simp only[xG,Cs,h,e];rfl)⟩
 refine⟨rfl,al,al,bo (fun j=>⟨al,al,⟨ae,j⟩,Xc,rfl,⟨bt x.src i⟩,by rw[gB,cy],rfl,hF _ _,ao,fun _ _=>aG (fun e=>?_) (fun e=>?_)⟩) (fun o=>⟨rfl,al,al,⟨g,ae,ae⟩,fin (by rw[gv,bF (show ¬i<x.src.size by omega)];rfl)⟩)⟩
 ·have e:fC (bt x.src i)=true:=e;exact⟨al,aK,al,⟨i+1,d,false⟩,⟨by grind,by grind,by grind,h.trans (by rw[gv,bw (show i<x.src.size by omega),e];rfl)⟩,aV,aE.pick [0,1] rfl (by rfl),by grind⟩
 ·have e:fC (bt x.src i)=false:=e;exact⟨rfl,al,al,⟨g,ae,ae⟩,fin (by rw[gv,bw (show i<x.src.size by omega),e];rfl)⟩
theorem ajA:aD 56 xG:=fo 50 Tryz.func56 (Si fC) [(1,3,aP 0),(2,3,aP 0),(2,7,aP 0),(2,15,aP 0),(4,3,aP 0),(2,19,aP 0),(4,8,aP 0),(3,3,aP 0),(3,7,.w [LH.z00 (0:Nat)])] (Sh 71 fC) aY bA [] ajB
theorem xQ(s:ByteArray):(!s.toList==(ByteArray.mk #[]).toList)=decide (s.size>0):=by
 have h:s.toList=s.data.toList:=ByteArray.toList_eq s;have a:(ByteArray.mk #[]).toList=[]:=by simp[*]
 have b:s.data.toList.length=s.size:=aL;grind
theorem amZ(s:ByteArray):(ByteArray.mk #[32]++s++ByteArray.mk #[32]).data.toList=[32]++s.data.toList++[32]:=aL
theorem alt:SE.size<=1048576:=by decide+kernel
structure M2 where
 s:ByteArray
def ya:aR where
 X:=M2
 args x:=[ai x.s]
 cond x:=x.s.size<=1048570
 aO _ F:=Gl F
 val x _:=ay (aj (Ao x.s))
def qY:ByteArray:=ByteArray.mk #[]
def LY(aa:List Value)(rr:ah)(a:gz->Unit->Prop):=aD 70 DA/\true=true/\∃(z:gz),aa=[ai z.a,ai z.b]/\([]:List ah)=[]/\z.a.size<=1048576/\Gl rr/\∀(b:Unit),True->a z b
theorem alB(x:M2)(F:ah)(h:ya.cond x)(g:ya.aO x F):Br (!x.s.toList==qY.toList) (LY [ai x.s,ai ⟨#[32]⟩] (cP F) (fun d c=>Br (!Lib.contains d.a.data.toList d.b.data.toList) (1+x.s.size<=9223372036854775807/\((ByteArray.mk #[32])++x.s).size+1<=9223372036854775807/\LY [ai {data:=(([32,98,114,101,97,107,32,99,97,115,101,32,99,97,116,99,104,32,99,108,97,115,115,32,99,111,110,115,116,32,99,111,110,116,105,110,117,101,32,100,101,98,117,103,103,101,114,32,100,101,102,97,117,108,116,32,100].append [101,108,101,116,101,32,100,111,32,101,108,115,101,32,101,110,117,109,32,101,120,112,111,114,116,32,101,120,116,101,110,100,115,32,102,97,108,115,101,32,102,105,110,97,108,108,121,32,102,111,114,32,102,117,110,99,116]).append ([105,111,110,32,105,102,32,105,109,112,111,114,116,32,105,110,32,105,110,115,116,97,110,99,101,111,102,32,108,101,116,32,110,101,119,32,110,117,108,108,32,114,101,116,117,114,110,32,115,117,112,101,114,32,115,119,105].append [116,99,104,32,116,104,105,115,32,116,104,114,111,119,32,116,114,117,101,32,116,114,121,32,116,121,112,101,111,102,32,118,97,114,32,118,111,105,100,32,119,104,105,108,101,32,119,105,116,104,32,121,105,101,108,100,32])).toArray},ai ((ByteArray.mk #[32])++x.s++(ByteArray.mk #[32]))] (cP F) (fun b a=>ar ya x F (ay (aj (Lib.contains b.a.data.toList b.b.data.toList))) [(0,F)])) (ar ya x F cQ [(0,F)]))) (ar ya x F cQ [(0,F)]):=by
 delta qY LY cP dk cQ aH ai aj ay;have hs:x.s.size<=1048570:=h;have i:(ByteArray.mk #[32]++x.s).size=1+x.s.size:=kQ;refine aG (fun f=>bs Uc ⟨x.s,⟨#[32]⟩⟩ (by grind) (Gl.rest (j:=0) aL g) fun _ _=>aG (fun e=>⟨ae,ae,Uc,rfl,⟨SE,⟨#[32]⟩++x.s++⟨#[32]⟩⟩,rfl,rfl,alt,Gl.rest (j:=0) aL g,fun _ _=>⟨(),ao,k8 ?_,aA [0]⟩⟩) (fun e=>⟨(),ao,k8 ?_,aA [0]⟩)) (fun f=>⟨(),ao,k8 ?_,aA [0]⟩)
 ·have e:(!Lib.contains x.s.data.toList [32])=true:=e;rw[xQ]at f;unfold Ao;simp[*]
 ·have e:(!Lib.contains x.s.data.toList [32])=false:=e;unfold Ao;simp[*]
 ·rw[xQ]at f;unfold Ao;simp[*]
theorem aly:aD 59 ya:=fo 16 Tryz.func59 (fun _ _=>[(1,4,aX DA),(1,11,aX DA)]) [] aY aY bA [] alB
theorem XP(n:Int):0<=u8.wrap n/\u8.wrap n<256:=by
 simp only[IntKind.wrap,IntKind.bits,IntKind.signed,jp,Bool.false_eq_true,if_false];omega
theorem aj4{b:Nat}(h:b<256)(hx:fC b=true):((bif bM b then 48 else 97)<=(bif bM b then b else b|||32))/\(bif bM b then b-48 else (b|||32)-97+10)<16:=by
 have:∀d:Fin 256,fC d.val=true->((bif bM d.val then 48 else 97)<=(bif bM d.val then d.val else d.val|||32))/\(bif bM d.val then d.val-48 else (d.val|||32)-97+10)<16:=by decide
 exact this ⟨b,h⟩ hx
structure oC where
 l:cD
 n:Nat
structure qr where
 k:Nat
 i:Nat
 u:Nat
def wA(s:ByteArray)(n i:Nat):ByteArray:=match (eC s n i 0).2 with|some u=>cJ [u/256%256,u%256]|none=>⟨#[]⟩
def tV(x:oC):Option Addr:=some ⟨x.l.b,0,none⟩
def EN(x:oC):List Value:=[ai x.l.src,ad x.l.i,aj x.l.aI,au x.l.oa x.l.on x.l.oc]
def ti:aR where
 X:=oC
 args x:=[ag (tV x),ad x.n]
 pre x:=[af x.l.b (EN x) 68]
 cond x:=0<=x.l.i/\x.l.i<=x.l.src.size/\x.l.src.size<=1048576/\x.n<=4
 val x _:=.returned (.tuple #[.string (wA x.l.src x.n x.l.i.toNat),.bool (eC x.l.src x.n x.l.i.toNat 0).2.isSome])
 post x _:=[af x.l.b [ai x.l.src,ad ((eC x.l.src x.n x.l.i.toNat 0).1:Nat),aj x.l.aI,au x.l.oa x.l.on x.l.oc] 68]
def acu(x:oC)(F:ah):Nat->Option Inv:=fun
 |0=>some {X:=qr,P:=fun d=>d.k<=x.n/\d.i<=x.l.src.size/\d.u<16^d.k/\eC x.l.src x.n x.l.i.toNat 0=eC x.l.src (x.n-d.k) d.i d.u,mu:=fun d=>x.n-d.k,lv:=fun d=>[(0,ag (tV x)),(6,ad d.u),(9,ad x.n),(10,ad d.k)],st:=fun d=>[af x.l.b [ai x.l.src,ad d.i,aj x.l.aI,au x.l.oa x.l.on x.l.oc] 68,F]}
 |_=>none
def IA(z:qr)(e0:oC):=z.k<=e0.n/\z.i<=e0.l.src.size/\z.u<Nat.pow 16 z.k/\eC e0.l.src e0.n e0.l.i.toNat 0=eC e0.l.src (e0.n-z.k) z.i z.u
def OW(e0:oC)(z:qr):List Value:=[ai e0.l.src,ad ↑z.i,aj e0.l.aI,au e0.l.oa e0.l.on e0.l.oc]
def E6(e0:oC)(z:qr)(e1:ah):=[(0,af e0.l.b (OW e0 z) 68),(1,e1)]
def oI(aa:List Value)(rr:ah)(a:cD->Unit->Prop):=aD 54 ny/\true=true/\∃(z:cD),aa=[ag (gu z)]/\([]:List ah)=[]/\(0<=z.i/\z.src.size<=1048576)/\px z rr/\∀(b:Unit),True->a z b
def sB(g:cD):List Value:=[ba (↑(bt g.src g.i.toNat):Int)]
def qP:=ay (tuple ⟨[ai ⟨#[]⟩,aj false]⟩)
def QF(i:qr):=(-9223372036854775808:Int)<=(i.u:Int)*16/\(i.u:Int)*16<=(9223372036854775807:Int)
def QK(i:qr):=(-9223372036854775808:Int)<=(i.i:Int)+1/\(i.i:Int)+1<=(9223372036854775807:Int)
def QP(i:qr):=(-9223372036854775808:Int)<=(i.k:Int)+1/\(i.k:Int)+1<=(9223372036854775807:Int)
def Me(e0:oC)(e1:ah)(v0 v1:Value)(a:St)(mm:Nat):=∃(z:qr),IA z e0/\(ag (tV e0)=ag (tV e0)/\v0=ad ↑z.u/\ad ↑e0.n=ad ↑e0.n/\v1=ad ↑z.k/\True)/\aE a (E6 e0 z e1)/\e0.n-z.k<mm
def Q2(x:oC)(i:qr)(F:ah):=[(0,af x.l.b [ai x.l.src,ad ((i.i:Int)+1),aj x.l.aI,au x.l.oa x.l.on x.l.oc] 68),(1,F)]
def PJ(x:oC)(i:qr)(F:ah)(c:Nat):=[(0,af x.l.b (OW x i) 68),(1,F),(14050,af c [ba ((i.u:Int).fdiv ((2:Int)^min (Int.toNat (8:Int)) i64.bits)),ba (u8.wrap (i.u:Int))] 5)]
theorem acw(x:oC)(F:ah)(A:ti.cond x)(H:ti.aO x F):(∃(a:qr),IA a x/\(ag (tV x)=ag (tV x)/\ad 0=ad ↑a.u/\ad ↑x.n=ad ↑x.n/\ad 0=ad ↑a.k/\True)/\aE [(0,af x.l.b (EN x) 68),(1,F)] (E6 x a F))/\aT fun(i:qr)_=>IA i x->aS ((i.k:Int)<(x.n:Int)) (oI [ag (tV x)] (aH (E6 x i F) []) (fun g f=>aD 71 xO/\true=true/\∃(e:nO),(sB g)=[ba ↑e.c]/\([]:List ah)=[]/\e.c<256/\True/\∀(d:Unit),True->Br (!fC e.c) (ar ti x F qP (E6 x i F)) (bK (u8.wrap ((↑(bt g.src g.i.toNat):Int)-48))/\T0 (sB g) (fun c b=>Br (!bM c.c) (bK (u8.wrap (u8.wrap (↑(BitVec.ofInt u8.bits (↑(bt g.src g.i.toNat):Int)|||BitVec.ofInt u8.bits (32:Int)).toNat:Int)-97))/\((-9223372036854775808:Int)<=u8.wrap (u8.wrap (↑(BitVec.ofInt u8.bits (↑(bt g.src g.i.toNat):Int)|||BitVec.ofInt u8.bits (32:Int)).toNat:Int)-97)+10/\u8.wrap (u8.wrap (↑(BitVec.ofInt u8.bits (↑(bt g.src g.i.toNat):Int)|||BitVec.ofInt u8.bits (32:Int)).toNat:Int)-97)+10<=(9223372036854775807:Int))/\QF i/\bK ((i.u:Int)*16+(u8.wrap (u8.wrap (↑(BitVec.ofInt u8.bits (↑(bt g.src g.i.toNat):Int)|||BitVec.ofInt u8.bits (32:Int)).toNat:Int)-97)+10))/\aw x.l.b 1/\QK i/\aw x.l.b 1/\QP i/\Me x F (ad ((i.u:Int)*16+(u8.wrap (u8.wrap (↑(BitVec.ofInt u8.bits (↑(bt g.src g.i.toNat):Int)|||BitVec.ofInt u8.bits (32:Int)).toNat:Int)-97)+10))) (ad ((i.k:Int)+1)) (Q2 x i F) (x.n-i.k)) (QF i/\bK ((i.u:Int)*16+u8.wrap ((↑(bt g.src g.i.toNat):Int)-48))/\aw x.l.b 1/\QK i/\aw x.l.b 1/\QP i/\Me x F (ad ((i.u:Int)*16+u8.wrap ((↑(bt g.src g.i.toNat):Int)-48))) (ad ((i.k:Int)+1)) (Q2 x i F) (x.n-i.k)))))) ((0<=(i.u:Int).fdiv ((2:Int)^min (Int.toNat (8:Int)) i64.bits)/\(i.u:Int).fdiv ((2:Int)^min (Int.toNat (8:Int)) i64.bits)<=255)/\∀(c:Nat),T8 (a7 Tryz.f90 13 6) [au (bI c) 2 2] (aH (PJ x i F c) []) (fun b a=>ar ti x F (ay (tuple ⟨[ai (cJ b.l),aj true]⟩)) (PJ x i F c))):=by
 delta IA tV EN OW E6 gu oI sB qP T0 QF QK QP Me Q2 T8 bI PJ aH aw bK ad ba ai aj ag au af aS ay aT;obtain⟨w,D,hs,hn⟩:=A;refine⟨⟨⟨0,x.l.i.toNat,0⟩,⟨dq _,by simp[*],Nat.one_pos,rfl⟩,aV,aE.pick [0,1] rfl (by dsimp only;rw[Int.toNat_of_nonneg w];rfl)⟩,?_⟩;rintro⟨k,i,u⟩ J ⟨y,z,t,p⟩;dsimp only at y z t p⊢;have I:u<65536:=Nat.lt_of_lt_of_le t (show 16^k<=16^4 from nn ae ae);refine bo (fun E=>?_) (fun B=>?_)
 ·refine bs tJ ⟨x.l.b,x.l.src,i,x.l.aI,x.l.oa,x.l.on,x.l.oc⟩ ⟨by simp[*],hs⟩ ⟨aQ.rest (j:=0) aL (aQ.cells rfl),aQ.rest (j:=0) aL (aQ.cells rfl)⟩ fun _ _=>⟨Xc,rfl,⟨bt x.l.src i⟩,by rfl,rfl,hF _ _,ao,fun _ _=>?_⟩;dsimp only;rw[cy];have q:=hF x.l.src i;obtain⟨m,v⟩:∃m,x.n-k=m+1:=⟨x.n-k-1,ae⟩;refine aG (fun hx=>?_) (fun hx=>?_)
  ·have hx:fC (bt x.l.src i)=false:=by grind
   have e:eC x.l.src x.n x.l.i.toNat 0=(i,none):=by
    rw[p,v,eC,hx,lB];rfl
   exact⟨(),ao,by show returned _=returned (.tuple #[.string (wA x.l.src x.n x.l.i.toNat),.bool _]);unfold wA;grind,aE.pick [0,1] rfl (by simp only[ti,e];rfl)⟩
  ·have hx:fC (bt x.l.src i)=true:=by grind
   have hi:i<x.l.src.size:=by
    rcases Nat.lt_or_ge i x.l.src.size with h|h
    ·exact h
    ·rw[uL h]at hx;cases hx
   have step:eC x.l.src (x.n-k) i u=eC x.l.src (x.n-(k+1)) (i+1) (u*16+(bif bM (bt x.l.src i) then bt x.l.src i-48 else (bt x.l.src i|||32)-97+10)):=by
    rw[v,eC,bw hi,hx,show x.n-(k+1)=m by omega];rfl
   rw[zn q];have hd:=aj4 q hx;have l:∀d:Nat,d<16->(bif bM (bt x.l.src i) then bt x.l.src i-48 else (bt x.l.src i|||32)-97+10)=d->u*16+d<Nat.pow 16 (k+1)/\eC x.l.src x.n x.l.i.toNat 0=eC x.l.src (x.n-(k+1)) (i+1) (u*16+d):=fun d hd e=>by
    refine⟨?_,?_⟩
    ·have:Nat.pow 16 (k+1)=Nat.pow 16 k*16:=Nat.pow_succ ..;omega
    grind
   refine⟨⟨by have:=XP ((bt x.l.src i:Int)-48);omega,by have:=XP ((bt x.l.src i:Int)-48);omega⟩,wq,rfl,⟨bt x.l.src i⟩,rfl,rfl,q,ao,fun _ _=>aG (fun n=>?_) (fun n=>?_)⟩
   ·have n:bM (bt x.l.src i)=false:=by grind
    simp only[n,aN]at l hd;have hl:=hd.1;have o:u8.wrap (((bt x.l.src i|||32:Nat):Int)-97)=(((bt x.l.src i|||32)-97:Nat):Int):=by
     rw[show(((bt x.l.src i|||32:Nat):Int)-97)=(((bt x.l.src i|||32)-97:Nat):Int) by omega,FJ];omega
    rw[o];obtain⟨r,s⟩:=l _ hd.2 rfl;exact⟨aK,aK,aK,aK,al,aK,al,aK,⟨k+1,i+1,u*16+((bt x.l.src i|||32)-97+10)⟩,⟨by grind,by grind,r,s⟩,⟨rfl,by rfl,rfl,rfl,ao⟩,aE.pick [0,1] rfl (by rfl),by grind⟩
   ·have n:bM (bt x.l.src i)=true:=by grind
    simp only[n,aU]at l hd;have hl:=hd.1;have o:u8.wrap ((bt x.l.src i:Int)-48)=((bt x.l.src i-48:Nat):Int):=by
     rw[show((bt x.l.src i:Int)-48)=((bt x.l.src i-48:Nat):Int) by omega,FJ];omega
    rw[o];obtain⟨r,s⟩:=l _ hd.2 rfl;exact⟨aK,aK,al,aK,al,aK,⟨k+1,i+1,u*16+(bt x.l.src i-48)⟩,⟨by grind,by grind,r,s⟩,⟨rfl,by rfl,rfl,rfl,ao⟩,aE.pick [0,1] rfl (by rfl),by grind⟩
 ·have hk:x.n-k=0:=by omega
  have e:eC x.l.src x.n x.l.i.toNat 0=(i,some u):=by rw[p,hk,eC]
  rw[Xb,FJ];refine⟨aK,fun b=>bs (GN rfl rfl rfl rfl) ⟨some ⟨b,0,none⟩,2,2,[u/256,u%256]⟩ (.fU b 0 2 rfl) (?_) fun _ _=>⟨(),ao,?_,aE.pick [0,1] rfl (by simp only[ti,e];rfl)⟩⟩
  ·intro G h;cases h;exact c_.rest (j:=14050) aL (c_.cells (fun j u C=>by rw[hU];exact C))
  ·show returned _=returned (.tuple #[.string (wA x.l.src x.n x.l.i.toNat),.bool _]);unfold wA;grind
theorem Uk:aD 90 ti:=fo 47 Tryz.func90 (fun _ _=>[(4,1,aX ny),(5,1,aX xO),(8,1,aX pJ),(13,4,aW),(13,5,.n 14050),(13,6,.o yJ [] [])]) [(11,3,aP 0),(11,7,.w [LH.z00 (0:Nat)])] acu aY bA [] acw
end
end Go.Proofs.YtdkchodgklpomaaGreatDoor
