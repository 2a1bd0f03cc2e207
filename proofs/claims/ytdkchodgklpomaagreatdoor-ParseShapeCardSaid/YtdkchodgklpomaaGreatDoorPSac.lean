/- Part of the proof that ParseShape answers true at every input. -/
import Derived.Test.YtdkchodgklpomaaGreatDoorPSab
set_option linter.all false
namespace Go.Proofs.YtdkchodgklpomaaGreatDoor
set_option maxRecDepth 100000
open Go.Value (int slice string bool pointer agg tuple func float iface nilIface)
open Go.IntKind (i64 u8 u64 i32 u32 u16 i8 i16)
open Go.FloatKind (f64)
open Go.Ending (returned panicked)
section
def aH(S:List (Nat×ai))(l:List Nat):ai:=.dv (rest S l)
def dK(a b:Int):Ending:=.panicked [{v:=.iface 51 (.agg ⟨[.int .i64 a,.int .i64 b]⟩),recovered:=false}]
def ax(b i:Nat):Prop:=dS ⟨b,i,none⟩ b
def bT(z:Int):Prop:=(-9223372036854775808:Int)<=z/\z<=9223372036854775807
def cF(b:Nat)(p:Prop):Prop:=dS ⟨b,0,none⟩ b/\dS ⟨b,1,none⟩ b/\dS ⟨b,2,none⟩ b/\dS ⟨b,3,none⟩ b/\dS ⟨b,4,none⟩ b/\p
abbrev ae(z:Int):Value:=.int .i64 z
abbrev a_(z:Int):Value:=.int .u8 z
abbrev aA(z:Int):Value:=.int .u64 z
abbrev d8(z:Int):Value:=.int .i32 z
abbrev aj(s:ByteArray):Value:=.string s
abbrev ak(b:Bool):Value:=.bool b
abbrev ah(a:Option Addr):Value:=.pointer a
abbrev au:= @Value.slice
abbrev fE:= @Value.iface
abbrev ag:= @ai.cells
abbrev sT:= @ai.iT
abbrev eD:= @ai.dv
abbrev ba:=ai.dT
def cf(z:Int):=BitVec.ofInt IntKind.u64.bits z
def iC(z:Int):=BitVec.ofInt IntKind.i64.bits z
def bc(z:Int):Int:=IntKind.u64.wrap z
def bY(z:Int):Int:=IntKind.i64.wrap z
def Gz(z:Int):Int:=IntKind.i32.wrap z
def aP(p:Prop)[Decidable p](a b:Prop):Prop:=Br (decide p) a b
abbrev az(v:Value):Ending:=.returned v
def aS{X:Type}(p:X->(Nat->Value)->Prop):Prop:=∀a j,p a j
section
variable{X:Type}{A:Prop}{aa:List Value}{pp:List ai}{fa:X->List Value}{fp:X->List ai}{c r K:X->Prop}
theorem bp(ok:A)(z:X)(hc:c z)(hr:r z)(k:K z)(ha:aa=fa z:=by exact rfl)(hp:pp=fp z:=by exact rfl):A/\true=true/\∃z,aa=fa z/\pp=fp z/\c z/\r z/\K z:=⟨ok,rfl,z,ha,hp,hc,hr,k⟩
theorem bV(ok:A)(z:X)(hc:c z)(k:K z)(ha:aa=fa z:=by exact rfl)(hp:pp=fp z:=by exact rfl)(hr:r z:=by exact trivial):A/\true=true/\∃z,aa=fa z/\pp=fp z/\c z/\r z/\K z:=⟨ok,rfl,z,ha,hp,hc,hr,k⟩
theorem nf(ok:A)(z:X)(k:K z)(ha:aa=fa z:=by exact rfl)(hp:pp=fp z:=by exact rfl)(hc:c z:=by exact trivial)(hr:r z:=by exact trivial):A/\true=true/\∃z,aa=fa z/\pp=fp z/\c z/\r z/\K z:=⟨ok,rfl,z,ha,hp,hc,hr,k⟩
end
def aX(C:aR):OH:=.c C [] []
def bq(C:aR):OH:=.c C [0] [0]
def aT(n:Nat):OH:=.q [.z00 n]
def aW:OH:=.q []
def dm:OH:=.q [.ex 0 (.int .i64)]
def dO(C:aR):OH:=.o C [0] [0]
theorem ahS:Tryz.prog.follows .mixedOrders=true:=by kernel_rfl
theorem arj{a b:Nat}(h:Nat.ble a b=true):a<=b:=Nat.le_of_ble_eq_true h
def aY{X:Type}:X->ai->Nat->Option Inv:=fun _ _ _=>none
def bz:Nat->List Nat:=fun _=>[]
abbrev aC(f:FuncId)(C:aR):Prop:=lB Tryz.prog f C
theorem fo{f:FuncId}{fn:Func}{c:Code}{C:aR}(N:Nat)(hf:Tryz.prog.funcs[f]?=some fn)(o:C.X->ai->List (Nat×Nat×OH))(hs:List (Nat×Nat×OH))(iv ct:C.X->ai->Nat->Option Inv)(od:Nat->List Nat)(rh:List LH){v:C.X->ai->Prop}(h:∀x F,C.cond x->C.aQ x F->v x F)
  (hb:fn.body=some c:=by exact rfl) (hN:fn.ntmps=N:=by kernel_rfl) (hl:∀x,(C.args x).length<=N:=by intro _;exact Nat.le_of_ble_eq_true rfl) (he:∀x F,v x F=Body Tryz.prog N fn ⟨hk (o x F++hs),iv x F,ct x F,od⟩ rh c (oS (C.args x)) (bD (C.pre x++[F])) (aq C x F):=by intro _ _;kernel_rfl):lB Tryz.prog f C:=
 ahP ahS hf hb hN hl (fun x F=>⟨hk (o x F++hs),iv x F,ct x F,od⟩) rh fun x F h1 h2=>Eq.mp (he x F) (h x F h1 h2)
open Go
theorem At{p q:Int}(h:p=q):returned (.int .i64 p)= .returned (.int .i64 q):=congrArg (fun q=>returned (int .i64 q)) h
theorem mh{p q:Bool}(h:p=q):returned (.bool p)= .returned (.bool q):=congrArg (fun q=>returned (bool q)) h
theorem B0{c:Nat}(h:c<256):u8.wrap (↑(BitVec.ofInt u8.bits (↑c:Int)|||BitVec.ofInt u8.bits 32).toNat:Int)=((c|||32:Nat):Int):=by
 have:∀d:Fin 256,u8.wrap (↑(BitVec.ofInt u8.bits (↑d.val:Int)|||BitVec.ofInt u8.bits 32).toNat:Int)=((d.val|||32:Nat):Int):=by decide
 exact this ⟨c,h⟩
theorem gX(s:ByteArray)(i:Int):aE s i=(bt s i.toNat:Int):=by
 unfold aE bt;rw[fD,Array.getElem?_toList];cases s.data[i.toNat]? <;> rfl
theorem DB{s:ByteArray}{i:Nat}(h:s.size<=i):bt s i=0:=by
 unfold bt;simp[*]
theorem iM(s:ByteArray)(i:Nat):bt s i<256:=by
 unfold bt;cases h:s.data[i]? with
 |none=>show(0:Nat)<256;omega
 |some b=>exact b.toNat_lt
structure py where
 c:Nat
def zo(p:Nat->Bool):aR where
 X:=py
 args x:=[a_ x.c]
 cond x:=x.c<256
 val x _:=az (ak (p x.c))
def uL:aR:=zo jq
def ry:aR:=zo ce
def AF:aR:=zo gz
def jv:=az (ak true)
def UO(x:py)(F:ai):=Br ((x.c:Int)==95) (aq uL x F jv [(0,F)]) (aq uL x F (az (ak ((x.c:Int)==36))) [(0,F)])
def Th(x:py)(F:ai):=aP ((x.c:Int)>=65) (aP ((x.c:Int)<=90) (aq uL x F jv [(0,F)]) (UO x F)) (UO x F)
theorem akF(x:py)(F:ai)(hc:uL.cond x)(hr:uL.aQ x F):aP ((x.c:Int)>=97) (aP ((x.c:Int)<=122) (aq uL x F jv [(0,F)]) (Th x F)) (Th x F):=by
 delta jv UO Th ak aP az;have mI:x.c<256:=hc
 repeat' (first| (refine aG (fun _=>?_) (fun _=>?_)))
 all_goals (refine⟨(),ao,mh (Bool.eq_iff_iff.2 ?_),aB [0]⟩;simp_all [jq,pE];try omega)
theorem Sz:lB Tryz.prog 55 uL:=fo 25 Tryz.func55 (fun _ _=>[]) [] aY aY bz [] akF
def dq:=ak false
def c7:=az dq
theorem agO(x:py)(F:ai)(hc:ry.cond x)(hr:ry.aQ x F):aP ((x.c:Int)>=48) (aq ry x F (az (ak (decide ((x.c:Int)<=57)))) [(0,F)]) (aq ry x F c7 [(0,F)]):=by
 delta dq c7 ak aP az;have mI:x.c<256:=hc
 repeat' (first| (refine aG (fun _=>?_) (fun _=>?_)))
 all_goals (refine⟨(),ao,mh (Bool.eq_iff_iff.2 ?_),aB [0]⟩;simp_all [ce,pE];try omega)
theorem zr:lB Tryz.prog 58 ry:=fo 9 Tryz.func58 (fun _ _=>[]) [] aY aY bz [] agO
def T0(aa:List Value)(k0:py->Unit->Prop):=lB Tryz.prog 58 ry/\true=true/\∃(z:py),aa=[a_ ↑z.c]/\([]:List ai)=[]/\z.c<256/\True/\∀(u0:Unit),True->k0 z u0
theorem aoZ(x:py)(F:ai)(hc:AF.cond x)(hr:AF.aQ x F):T0 [a_ ↑x.c] (fun b a=>Br (ce b.c) (aq AF x F jv [(0,F)]) (aP (u8.wrap (↑(BitVec.ofInt u8.bits (x.c:Int)|||BitVec.ofInt u8.bits (32:Int)).toNat:Int)>=97) (aq AF x F (az (ak (decide (u8.wrap (↑(BitVec.ofInt u8.bits (x.c:Int)|||BitVec.ofInt u8.bits (32:Int)).toNat:Int)<=102)))) [(0,F)]) (aq AF x F c7 [(0,F)]))):=by
 delta T0 jv dq c7 a_ ak aP az;have mI:x.c<256:=hc;have e:u8.wrap (↑(BitVec.ofInt u8.bits (↑x.c:Int)|||BitVec.ofInt u8.bits 32).toNat:Int)=((x.c|||32:Nat):Int):=B0 mI;rw[e];refine bV zr x mI fun _ _=>?_
 repeat' (first| (refine aG (fun _=>?_) (fun _=>?_)))
 all_goals (refine⟨(),ao,mh (Bool.eq_iff_iff.2 ?_),aB [0]⟩;simp_all [gz,pE];try omega)
theorem abZ:lB Tryz.prog 71 AF:=fo 15 Tryz.func71 (fun _ _=>[(1,1,aX ry)]) [] aY aY bz [] aoZ
structure cM where
 b:Nat
 src:ByteArray
 i:Int
 aK:Bool
 oa:Option Addr
 on:Nat
 oc:Nat
def q_(x:cM)(F:ai):Prop:=aO F ⟨x.b,0,none⟩ (.string x.src)/\aO F ⟨x.b,1,none⟩ (.int .i64 x.i)
theorem q_.sub{x:cM}{A B:ai}(hs:Sub A B)(h:q_ x A):q_ x B:=⟨h.1.sub hs,h.2.sub hs⟩
def gP(x:cM):Option Addr:=some ⟨x.b,0,none⟩
def o7:aR where
 X:=cM
 args x:=[ah (gP x)]
 cond x:=0<=x.i/\x.src.size<=1048576
 aQ x F:=q_ x F
 val x _:=az (a_ (bt x.src x.i.toNat))
 eX _ _ _ hs h:=q_.sub hs h
def T1(aa:ai)(ad:Addr)(k0:Int->Prop):=∃(z0:Int),aO aa ad (ae z0)/\k0 z0
def T2(aa:ai)(ad:Addr)(k0:ByteArray->Prop):=∃(z0:ByteArray),aO aa ad (aj z0)/\k0 z0
theorem amL(x:cM)(F:ai)(hc:o7.cond x)(hr:o7.aQ x F):true=true/\T1 F ⟨x.b,1,none⟩ (fun d=>T2 F ⟨x.b,0,none⟩ (fun c=>aP (d<c.size) (true=true/\T2 F ⟨x.b,0,none⟩ (fun b=>T1 F ⟨x.b,1,none⟩ (fun a=>(0<=a/\a<b.size)/\aq o7 x F (az (a_ (aE b a))) [(0,F)]))) (aq o7 x F (az (a_ 0)) [(0,F)]))):=by
 delta T1 T2 ae a_ aj aP az;have h0:0<=x.i:=hc.1;obtain⟨l0,l1⟩:=hr;refine⟨rfl,x.i,l1,x.src,l0,bl (fun h=>⟨rfl,x.src,l0,x.i,l1,⟨h0,h⟩,(),ao,?_,aB [0]⟩) (fun h=>⟨(),ao,?_,aB [0]⟩)⟩
 ·show returned _=returned _;rw[gX]
 ·show returned _=returned _;rw[DB af];rfl
theorem wi:lB Tryz.prog 54 o7:=fo 22 Tryz.func54 (fun _ _=>[(1,3,dm),(1,7,.q [.ex 0 .str]),(2,3,.q [.ex 0 .str]),(2,7,dm)]) [] aY aY bz [] amL
def Av:aR where
 X:=cM
 args x:=[ah (gP x)]
 cond x:=0<=x.i/\x.i<=x.src.size/\x.src.size<=1048576
 aQ x F:=q_ x F
 val x _:=az (aj (x.src.extract x.i.toNat x.src.size))
 eX _ _ _ hs h:=q_.sub hs h
theorem aoj(x:cM)(F:ai)(hc:Av.cond x)(hr:Av.aQ x F):true=true/\T2 F ⟨x.b,0,none⟩ (fun b=>T1 F ⟨x.b,1,none⟩ (fun a=>(0<=a/\a<=b.size/\(b.size:Int)<=(b.size:Int))/\aq Av x F (az (aj (b.extract a.toNat (b.size:Int).toNat))) [(0,F)])):=by
 delta T2 T1 ae aj az;obtain⟨h0,h1,_⟩:=hc;obtain⟨l0,l1⟩:=hr;exact⟨rfl,x.src,l0,x.i,l1,⟨h0,h1,cN _⟩,(),ao,rfl,aB [0]⟩
theorem WG:lB Tryz.prog 51 Av:=fo 12 Tryz.func51 (fun _ _=>[(1,3,.q [.ex 0 .str]),(1,7,dm)]) [] aY aY bz [] aoj
end
end Go.Proofs.YtdkchodgklpomaaGreatDoor
namespace Go.Proofs
section
open Go.Shelf
def aeu:Go.Shelf.Ren:=⟨fun|119=>104|n=>n,fun|21=>21|4=>4|n=>n,fun|n=>n⟩
theorem aet:Go.Proofs.Lays.n119 Tryz.prog aeu:={
 mixed:=by kernel_rfl
 f119:=Tryz.func104.trans (congrArg some (by kernel_rfl))
 t4:=Tryz.underlying4
 a4:=Tryz.isAgg4
 z4:=Tryz.sizeOf4
 v4:=Tryz.zeroValue4
 t21:=Tryz.underlying21
 a21:=Tryz.isAgg21
 z21:=Tryz.sizeOf21
 v21:=Tryz.zeroValue21}
theorem Tryz.utf8_ValidRune(r:Int)(w:World):
  Calls Tryz.prog 104 #[.int .i32 r] w fun e w'=>e= .returned (.bool (Lib.validRune r))/\w'=w:=Any.utf8_ValidRune aet r w
def ara:Go.Shelf.Ren:=⟨fun|137=>100|217=>79|266=>93|n=>n,fun|9=>9|5=>5|3=>3|n=>n,fun|n=>n⟩
def aeH:Go.Shelf.Ren:=⟨fun|217=>79|266=>93|n=>n,fun|9=>9|5=>5|3=>3|n=>n,fun|n=>n⟩
theorem aeG:Go.Proofs.Lays.n217 Tryz.prog aeH:={
 mixed:=by kernel_rfl
 f217:=Tryz.func79.trans (congrArg some (by kernel_rfl))
 f266:=Tryz.func93.trans (congrArg some (by kernel_rfl))
 t3:=Tryz.underlying3
 a3:=Tryz.isAgg3
 z3:=Tryz.sizeOf3
 v3:=Tryz.zeroValue3
 t5:=Tryz.underlying5
 a5:=Tryz.isAgg5
 z5:=Tryz.sizeOf5
 v5:=Tryz.zeroValue5
 t9:=Tryz.underlying9
 a9:=Tryz.isAgg9
 z9:=Tryz.sizeOf9
 v9:=Tryz.zeroValue9}
open Go.RowKit Go.Lib in
theorem Tryz.stringslite_IndexByte(s:ByteArray)(c:Int)(w:World):
  Calls Tryz.prog 79 #[.string s,.int .u8 c] w fun e w'=>e= .returned (.int .i64 (Lib.indexByte s.data.toList c.toNat.toUInt8))/\w'=w:=Any.stringslite_IndexByte aeG s c w
def arb:Go.Shelf.Ren:=⟨fun|219=>69|217=>79|225=>80|224=>81|267=>82|266=>93|314=>94|n=>n,fun|9=>9|3=>3|4=>4|5=>5|46=>101|146=>116|51=>115|n=>n,fun|1=>4|n=>n⟩
def aey:Go.Shelf.Ren:=⟨fun|143=>52|219=>69|217=>79|225=>80|224=>81|267=>82|266=>93|314=>94|n=>n,fun|9=>9|3=>3|4=>4|5=>5|46=>101|146=>116|51=>115|n=>n,fun|1=>4|n=>n⟩
theorem aex:Go.Proofs.Lays.n143 Tryz.prog aey:={
 mixed:=by kernel_rfl
 f143:=Tryz.func52.trans (congrArg some (by kernel_rfl))
 f217:=Tryz.func79.trans (congrArg some (by kernel_rfl))
 f219:=Tryz.func69.trans (congrArg some (by kernel_rfl))
 f224:=Tryz.func81.trans (congrArg some (by kernel_rfl))
 f225:=Tryz.func80.trans (congrArg some (by kernel_rfl))
 f266:=Tryz.func93.trans (congrArg some (by kernel_rfl))
 f267:=Tryz.func82.trans (congrArg some (by kernel_rfl))
 f314:=Tryz.func94.trans (congrArg some (by kernel_rfl))
 t3:=Tryz.underlying3
 a3:=Tryz.isAgg3
 z3:=Tryz.sizeOf3
 v3:=Tryz.zeroValue3
 t4:=Tryz.underlying4
 a4:=Tryz.isAgg4
 z4:=Tryz.sizeOf4
 v4:=Tryz.zeroValue4
 t5:=Tryz.underlying5
 a5:=Tryz.isAgg5
 z5:=Tryz.sizeOf5
 v5:=Tryz.zeroValue5
 t9:=Tryz.underlying9
 a9:=Tryz.isAgg9
 z9:=Tryz.sizeOf9
 v9:=Tryz.zeroValue9
 t46:=Tryz.underlying101
 a46:=Tryz.isAgg101
 z46:=Tryz.sizeOf101
 v46:=Tryz.zeroValue101
 t51:=Tryz.underlying115
 a51:=Tryz.isAgg115
 z51:=Tryz.sizeOf115
 v51:=Tryz.zeroValue115
 t146:=Tryz.underlying116
 a146:=Tryz.isAgg116
 z146:=Tryz.sizeOf116
 v146:=Tryz.zeroValue116
 g1:=by kernel_rfl}
open Go.RowKit Go.Lib in
theorem Tryz.strings_Index(s sub:ByteArray)(m:Int)(w:World)(hs:s.size<4294967281)(hm:w.cell? ⟨4,0,none⟩=some (.int .i64 m)):
  Calls Tryz.prog 52 #[.string s,.string sub] w fun e w'=>e= .returned (.int .i64 (Lib.index s.data.toList sub.data.toList))/\w'=w:=Any.strings_Index aex s sub m w hs hm
def aeA:Go.Shelf.Ren:=⟨fun|144=>70|143=>52|219=>69|217=>79|225=>80|224=>81|267=>82|266=>93|314=>94|n=>n,fun|9=>9|4=>4|3=>3|5=>5|46=>101|146=>116|51=>115|n=>n,fun|1=>4|n=>n⟩
theorem aez:Go.Proofs.Lays.n144 Tryz.prog aeA:={
 mixed:=by kernel_rfl
 f143:=Tryz.func52.trans (congrArg some (by kernel_rfl))
 f144:=Tryz.func70.trans (congrArg some (by kernel_rfl))
 f217:=Tryz.func79.trans (congrArg some (by kernel_rfl))
 f219:=Tryz.func69.trans (congrArg some (by kernel_rfl))
 f224:=Tryz.func81.trans (congrArg some (by kernel_rfl))
 f225:=Tryz.func80.trans (congrArg some (by kernel_rfl))
 f266:=Tryz.func93.trans (congrArg some (by kernel_rfl))
 f267:=Tryz.func82.trans (congrArg some (by kernel_rfl))
 f314:=Tryz.func94.trans (congrArg some (by kernel_rfl))
 t3:=Tryz.underlying3
 a3:=Tryz.isAgg3
 z3:=Tryz.sizeOf3
 v3:=Tryz.zeroValue3
 t4:=Tryz.underlying4
 a4:=Tryz.isAgg4
 z4:=Tryz.sizeOf4
 v4:=Tryz.zeroValue4
 t5:=Tryz.underlying5
 a5:=Tryz.isAgg5
 z5:=Tryz.sizeOf5
 v5:=Tryz.zeroValue5
 t9:=Tryz.underlying9
 a9:=Tryz.isAgg9
 z9:=Tryz.sizeOf9
 v9:=Tryz.zeroValue9
 t46:=Tryz.underlying101
 a46:=Tryz.isAgg101
 z46:=Tryz.sizeOf101
 v46:=Tryz.zeroValue101
 t51:=Tryz.underlying115
 a51:=Tryz.isAgg115
 z51:=Tryz.sizeOf115
 v51:=Tryz.zeroValue115
 t146:=Tryz.underlying116
 a146:=Tryz.isAgg116
 z146:=Tryz.sizeOf116
 v146:=Tryz.zeroValue116
 g1:=by kernel_rfl}
open Go.RowKit Go.Lib in
theorem Tryz.strings_Contains(s sub:ByteArray)(m:Int)(w:World)(hs:s.size<4294967281)(hm:w.cell? ⟨4,0,none⟩=some (.int .i64 m)):
  Calls Tryz.prog 70 #[.string s,.string sub] w fun e w'=>e= .returned (.bool (Lib.contains s.data.toList sub.data.toList))/\w'=w:=Any.strings_Contains aez s sub m w hs hm
def aeF:Go.Shelf.Ren:=⟨fun|197=>67|260=>78|n=>n,fun|9=>9|21=>21|3=>3|4=>4|5=>5|105=>88|119=>111|0=>0|46=>101|139=>114|138=>113|n=>n,fun|3=>5|4=>6|n=>n⟩
theorem aeE:Go.Proofs.Lays.n197 Tryz.prog aeF:={
 mixed:=by kernel_rfl
 f197:=Tryz.func67.trans (congrArg some (by kernel_rfl))
 f260:=Tryz.func78.trans (congrArg some (by kernel_rfl))
 t0:=Tryz.underlying0
 a0:=Tryz.isAgg0
 z0:=Tryz.sizeOf0
 v0:=Tryz.zeroValue0
 t3:=Tryz.underlying3
 a3:=Tryz.isAgg3
 z3:=Tryz.sizeOf3
 v3:=Tryz.zeroValue3
 t4:=Tryz.underlying4
 a4:=Tryz.isAgg4
 z4:=Tryz.sizeOf4
 v4:=Tryz.zeroValue4
 t5:=Tryz.underlying5
 a5:=Tryz.isAgg5
 z5:=Tryz.sizeOf5
 v5:=Tryz.zeroValue5
 t9:=Tryz.underlying9
 a9:=Tryz.isAgg9
 z9:=Tryz.sizeOf9
 v9:=Tryz.zeroValue9
 t21:=Tryz.underlying21
 a21:=Tryz.isAgg21
 z21:=Tryz.sizeOf21
 v21:=Tryz.zeroValue21
 t46:=Tryz.underlying101
 a46:=Tryz.isAgg101
 z46:=Tryz.sizeOf101
 v46:=Tryz.zeroValue101
 t105:=Tryz.underlying88
 a105:=Tryz.isAgg88
 z105:=Tryz.sizeOf88
 v105:=Tryz.zeroValue88
 t119:=Tryz.underlying111
 a119:=Tryz.isAgg111
 z119:=Tryz.sizeOf111
 t138:=Tryz.underlying113
 a138:=Tryz.isAgg113
 z138:=Tryz.sizeOf113
 v138:=Tryz.zeroValue113
 t139:=Tryz.underlying114
 a139:=Tryz.isAgg114
 z139:=Tryz.sizeOf114
 v139:=Tryz.zeroValue114
 g3:=by kernel_rfl
 g4:=by kernel_rfl}
open Go.RowKit Go.Lib in
theorem Tryz.utf8_DecodeRuneInString(s:ByteArray)(w:World)(hT:Lib.Utf8Tabs 5 6 w):
  Calls Tryz.prog 67 #[.string s] w fun e w'=>e= .returned (.tuple #[.int .i32 (Lib.decodeGo s).1,.int .i64 (Lib.decodeGo s).2])/\Below w.heap.size w w':=Any.utf8_DecodeRuneInString aeE s w hT
end
end Go.Proofs
namespace Go.Proofs.YtdkchodgklpomaaGreatDoor
set_option maxRecDepth 100000
open Go.Value (int slice string bool pointer agg tuple func float iface nilIface)
open Go.IntKind (i64 u8 u64 i32 u32 u16 i8 i16)
open Go.FloatKind (f64)
open Go.Ending (returned panicked)
section
open Go
variable{I:a7}{S:St}{w:World}
theorem Sat.below{w':World}(h:Sat I S w)(hb:RowKit.Below w.heap.size w w'):Sat I S w':=by
 obtain⟨f,h1,h2,h3⟩:=h.mN;have he:∀b,b<w.heap.size->hp w b=hp w' b:=fun b bP=>(hb.block b bP).symm;refine⟨⟨f,fun j=>ai.local (fun b BE=>he b (h3 _ _ BE).2) (h1 j),h2,fun j b BE=>⟨(h3 _ _ BE).1,Nat.lt_of_lt_of_le (h3 _ _ BE).2 hb.size⟩⟩,fun b o hI=>?_⟩;have hw:=h.o0 b o hI;have bP:b<w.heap.size:=by
  rcases Nat.lt_or_ge b w.heap.size with h'|h'
  ·exact h'
  ·have:hp w b=none:=Array.getElem?_eq_none h';grind
 grind
theorem ud{P:Program}{f:FuncId}(C:aR)(qu:∀x,C.pre x=[])(y:∀x,C.cond x->C.Y)(bw:∀x h,C.cd x (y x h))(ajo:∀x h,C.post x (y x h)=[])
  (h:∀(x:C.X)(F:ai)(I:a7)(w:World)(hc:C.cond x),C.aQ x F->Sat I (bD [F]) w->Calls P f ⟨C.args x⟩ w fun e w'=>e=C.val x (y x hc)/\RowKit.Below w.heap.size w w'):lB P f C:=by
 refine⟨fun x F I w hc hr hs=>?_⟩;rw[qu]at hs;refine(h x F I w hc hr hs).mono ?_;rintro e w' ⟨he,hb⟩;exact⟨y x hc,I,bw x hc,he,a7.le_refl I,by rw[ajo];exact hs.below hb,hb.os,hb.output⟩
theorem Sat.zH{F:ai}(h:Sat I (bD [F]) w){a:Addr}{v:Value}(hl:aO F a v):w.cell? a=some v:=Sat.look (j:=0) h hl
structure gE(F:ai):Prop where
 first:∀c,c<256->aO F ⟨5,c,none⟩ (.int .u8 (Lib.firstT c))
 accLo:∀i,i<16->aO F ⟨6,2*i,none⟩ (.int .u8 (Lib.accLo i))
 accHi:∀i,i<16->aO F ⟨6,2*i+1,none⟩ (.int .u8 (Lib.accHi i))
theorem gE.sub{A B:ai}(h:gE A)(hs:Sub A B):gE B:=⟨fun c hc=>(h.first c hc).sub hs,fun i hi=>(h.accLo i hi).sub hs,fun i hi=>(h.accHi i hi).sub hs⟩
theorem gE.rest{bF:List Nat}{j:Nat}(hj:j∉bF)(h:gE (gt S j)):gE (.dv (rest S bF)):=⟨fun c hc=>(h.first c hc).rest hj,fun i hi=>(h.accLo i hi).rest hj,fun i hi=>(h.accHi i hi).rest hj⟩
structure OG where
 s:ByteArray
def J_:aR where
 X:=OG
 args x:=[aj x.s]
 aQ _ F:=gE F
 val x _:=.returned (.tuple #[.int .i32 (Lib.decodeGo x.s).1,.int .i64 (Lib.decodeGo x.s).2])
theorem agH:aC 67 J_:=ud J_ (fun _=>rfl) (fun _ _=>()) (fun _ _=>ao) (fun _ _=>rfl) fun x F I w _ hr hs=>
 Go.Proofs.Tryz.utf8_DecodeRuneInString x.s w ⟨fun c hc=>hs.zH (hr.first c hc),fun i hi=>⟨hs.zH (hr.accLo i hi),hs.zH (hr.accHi i hi)⟩⟩
theorem ah7(s:ByteArray)(k:Nat):(s.get! k).toNat=bt s k:=by
 obtain⟨d⟩:=s;show(d[k]!).toNat=((d[k]?).map UInt8.toNat).getD 0;rw[getElem!_def];cases d[k]? <;> rfl
theorem afZ(s:ByteArray)(i k:Nat):bt (s.extract i s.size) k=bt s (i+k):=by
 unfold bt;by_cases h:i+k<s.size
 ·rw[show(s.extract i s.size).data=s.data.extract i s.size from ByteArray.data_extract,Array.getElem?_extract];have:k<min s.size s.data.size-i:=by
   have:s.data.size=s.size:=rfl;omega
  grind
 ·rw[Array.getElem?_eq_none (show s.data.size<=i+k by have:s.data.size=s.size:=rfl;omega)];rw[Array.getElem?_eq_none (show(s.extract i s.size).data.size<=k by have:(s.extract i s.size).data.size=(s.extract i s.size).size:=rfl;rw[this,jU];omega)]
theorem YE(n b0 b1 b2 b3:Nat)(h0:b0<256):(Lib.decodeN n b0 b1 b2 b3).1<=1114111:=by
 unfold Lib.decodeN
 repeat' split
 all_goals omega
theorem agG(s:ByteArray):(Lib.decodeGo s).1<=1114111:=by
 unfold Lib.decodeGo;split
 ·omega
 ·rw[Lib.decode_at];exact YE _ _ _ _ _ (UInt8.toNat_lt _)
theorem alE{s:ByteArray}{i:Nat}(h:i<s.size):eo s i=bif (Lib.decodeGo (s.extract i s.size)).1==65533&&(Lib.decodeGo (s.extract i s.size)).2==1 then none else some ((Lib.decodeGo (s.extract i s.size)).1,(Lib.decodeGo (s.extract i s.size)).2):=by
 have gx:(s.extract i s.size).size=s.size-i:=by simp[*]
 have he:Lib.decodeGo (s.extract i s.size)=Lib.decodeN (s.size-i) (bt s i) (bt s (i+1)) (bt s (i+2)) (bt s (i+3)):=by
  unfold Lib.decodeGo;rw[if_neg af,Lib.decode_at,gx];simp only[ah7,afZ,Nat.sub_zero,Nat.add_zero,jk]
 unfold eo;simp[*]
theorem agI(n b0 b1 b2 b3:Nat)(h:1<=n):(Lib.decodeN n b0 b1 b2 b3).2<=n/\1<=(Lib.decodeN n b0 b1 b2 b3).2:=by
 unfold Lib.decodeN
 repeat' split
 all_goals omega
theorem pO{s:ByteArray}{i c n:Nat}(h:eo s i=some (c,n)):i+n<=s.size/\1<=n/\c<=1114111:=by
 unfold eo at h;by_cases hi:i<s.size
 ·rw[bG hi,bf]at h;have h1:=agI (s.size-i) (bt s i) (bt s (i+1)) (bt s (i+2)) (bt s (i+3)) af;have h2:=YE (s.size-i) (bt s i) (bt s (i+1)) (bt s (i+2)) (bt s (i+3)) (iM s i);grind
 grind
structure A2 where
 s:ByteArray
 i:Int
def iX(A B:Type):XA (A ⊕ B):=⟨A,B,Sum.inl,Sum.inr,fun y=>match y with| .inl a=>.inl ⟨a,rfl⟩| .inr b=>.inr ⟨b,rfl⟩⟩
def qA:aR where
 X:=A2
 Y:=(Nat×Nat) ⊕ Unit
 args x:=[aj x.s,ae x.i]
 cond x:=0<=x.i
 aQ _ F:=gE F
 cd x y:=match y with
  | .inl a=>eo x.s x.i.toNat=some (a.1,a.2)
  | .inr _=>eo x.s x.i.toNat=none
 val _ y:=match y with
  | .inl a=>.returned (.tuple #[.int .i64 a.1,.int .i64 a.2,.bool true])
  | .inr _=>.returned (.tuple #[.int .i64 0,.int .i64 0,.bool false])
 sum:=some (iX (Nat×Nat) Unit)
def MK(x:A2)(F:ai):=aq qA x F (az (tuple ⟨[ae 0,ae 0,ak false]⟩)) [(0,F)]
def cX(F:ai):=aH [(0,F)] []
def TM(b:OG)(x:A2)(F:ai):=bT (↑(Lib.decodeGo b.s).fst:Int)/\aq qA x F (az (tuple ⟨[ae (↑(Lib.decodeGo b.s).fst:Int),ae (↑(Lib.decodeGo b.s).snd:Int),ak true]⟩)) [(0,F)]
theorem alG(x:A2)(F:ai)(hc:qA.cond x)(hr:qA.aQ x F):aP (x.i<0) (MK x F) (aP (x.i>=x.s.size) (MK x F) ((0<=x.i/\x.i<=x.s.size/\(x.s.size:Int)<=(x.s.size:Int))/\aC 67 J_/\true=true/\∃(b:OG),[aj (x.s.extract x.i.toNat (x.s.size:Int).toNat)]=[aj b.s]/\([]:List ai)=[]/\True/\gE (cX F)/\∀(a:Unit),True->Br ((↑(Lib.decodeGo b.s).fst:Int)==65533) (Br ((↑(Lib.decodeGo b.s).snd:Int)==1) (MK x F) (TM b x F)) (TM b x F))):=by
 delta MK cX TM aH bT ae aj ak aP az;have h0:0<=x.i:=hc;have no:eo x.s x.i.toNat=none->aq qA x F (returned (tuple #[.int .i64 0,.int .i64 0,.bool false])) [(0,F)]:=fun e=>⟨.inr (),e,rfl,aB [0]⟩;refine bl (fun h=>absurd h af) (fun _=>bl (fun h=>no ?_) (fun h=>⟨⟨h0,af,cN _⟩,agH,rfl,⟨x.s.extract x.i.toNat x.s.size⟩,rfl,rfl,ao,gE.rest (j:=0) aM hr,fun _ _=>?_⟩))
 ·unfold eo;grind
 have hv:=alE (s:=x.s) (i:=x.i.toNat) af;have hb:=agG (x.s.extract x.i.toNat x.s.size);revert hv hb;generalize Lib.decodeGo (x.s.extract x.i.toNat x.s.size)=d;obtain⟨c,n⟩:=d;intro hv hb;have ab1:eo x.s x.i.toNat=some (c,n)->aq qA x F (returned (tuple #[.int .i64 c,.int .i64 n,.bool true])) [(0,F)]:=fun e=>⟨.inl (c,n),e,rfl,aB [0]⟩;refine aG (fun h1=>aG (fun h2=>no ?_) (fun h2=>⟨aJ,ab1 ?_⟩)) (fun h1=>⟨aJ,ab1 ?_⟩)
 all_goals grind
theorem Ei:aC 49 qA:=fo 33 Tryz.func49 (fun _ _=>[(3,3,aX J_)]) [] aY aY bz [] alG
end
section
open Go
def bZ(l:List Nat):List Value:=l.map fun(n:Nat)=>int .u8 (n:Int)
theorem Fu(l:List Nat):(bZ l).length=l.length:=by simp[bZ]
theorem Oo(a b:List Nat):bZ (a++b)=bZ a++bZ b:=by simp[bZ]
theorem W2{l:List Nat}{u:Value}(h:u∈bZ l):u.oneCell'=true:=by
 obtain⟨n,_,rfl⟩:=List.mem_map.1 h;rfl
theorem abY(u:Nat):(↑u:Int).fdiv (2^min (Int.toNat 8) i64.bits)=((u/256:Nat):Int):=by
 show(↑u:Int).fdiv (256:Int)=_;grind
theorem IW(u:Nat):u8.wrap (↑u:Int)=((u%256:Nat):Int):=by
 rfl
structure Dt where
 r:Row
 l:List Nat
 u:Nat
def AK:aR where
 X:=Dt
 Y:=Row
 args x:=[au x.r.a x.r.n x.r.cap,ae x.u]
 pre x:=[x.r.A]
 cond x:=bv 5 1 (bZ x.l) x.r/\x.u<65536/\x.r.n<=4194304
 cd x y:=bv 5 1 (bZ (x.l++[x.u/256,x.u%256])) y/\y.n=x.r.n+2
 val _ y:=az (au y.a y.n y.cap)
 post _ y:=[y.A]
def mg(z:qX):List Value:=[au z.r.a z.r.n z.r.cap,au z.a z.m z.c]
def T3(oo:Oper)(aa:List Value)(pp:List ai)(rr:ai)(k0:qX->Row->Prop):=fj Tryz.prog oo (dt (5:TypeId) 1 1)/\true=true/\∃(z:qX),aa=(mg z)/\pp=[z.r.A]/\(bv 5 1 z.cs z.r/\z.ys.length=z.m*1/\(∀(w0:Value),w0∈z.ys->w0.oneCell'=true)/\(z.r.n+z.m)*1<=140737488355328/\z.r.n+z.m<=9223372036854775807/\(z.a=none->z.m=0/\z.c=0))/\(∀(w0:Addr),z.a=some w0->da rr w0 z.ys)/\∀(u0:Row),bv 5 1 (z.cs++z.ys) u0/\u0.n=z.r.n+z.m/\(z.m=0->u0=z.r)->k0 z u0
def bJ(c:Nat):Option Addr:=some ⟨c,0,none⟩
def UG(x:Dt):List Value:=[a_ ((x.u:Int).fdiv ((2:Int)^min (Int.toNat (8:Int)) i64.bits)),a_ (u8.wrap (x.u:Int))]
def mf(a:Row):=au a.a a.n a.cap
theorem apI(x:Dt)(F:ai)(hc:AK.cond x)(hr:AK.aQ x F):(0<=(x.u:Int).fdiv ((2:Int)^min (Int.toNat (8:Int)) i64.bits)/\(x.u:Int).fdiv ((2:Int)^min (Int.toNat (8:Int)) i64.bits)<=255)/\∀(c:Nat),T3 (a8 Tryz.f103 1 7) [au x.r.a x.r.n x.r.cap,au (bJ c) 2 2] [x.r.A] (aH [(0,x.r.A),(1,F),(2060,ag c (UG x) 5)] [0]) (fun b a=>aq AK x F (az (mf a)) [(0,a.A),(1,F),(2060,ag c (UG x) 5)]):=by
 delta mg T3 bJ UG mf aH a_ au ag az;obtain⟨bB,hu,hn⟩:=hc;have e1:(↑x.u:Int).fdiv (2^min (Int.toNat 8) i64.bits)=((x.u/256:Nat):Int):=abY x.u;have e2:u8.wrap (↑x.u:Int)=((x.u%256:Nat):Int):=IW x.u;rw[e1,e2];refine⟨aJ,fun b=>bp (kP (P:=Tryz.prog) 1 1 rfl rfl rfl rfl rfl rfl rfl (by decide)) ⟨x.r,bZ x.l,some ⟨b,0,none⟩,2,2,bZ [x.u/256,x.u%256]⟩ ⟨bB,rfl,fun _ h=>W2 h,by grind,by grind,aM⟩ (?_) (?_)⟩
 ·intro a ha;cases ha;exact da.rest (j:=2060) aM (da.cells (fun j u hj=>by rw[jk];exact hj))
 ·rintro y ⟨h1,h2,-⟩;exact⟨y,⟨by rw[Oo];exact h1,h2⟩,rfl,aB [0,1]⟩
theorem W3:aC 103 AK:=fo 13 Tryz.func103 (fun _ _=>[(1,5,aW),(1,6,.n 2060),(1,7,dO (dt 5 1 1))]) [] aY aY bz [] apI
structure OF where
 a:Option Addr
 n:Nat
 cap:Nat
 l:List Nat
def Bi:aR where
 X:=OF
 args x:=[au x.a x.n x.cap]
 cond x:=mt 1 (bZ x.l) x.a x.n
 aQ x F:=rl F x.a (bZ x.l)
 val x _:=az (aj (cQ x.l))
theorem ahT:∀(l:List Nat)(dX:List UInt8),(l.map fun(n:Nat)=>(n:Int)).foldl (fun(r:ByteArray)(n:Int)=>r.push (UInt8.ofNat n.toNat)) ⟨⟨dX⟩⟩=⟨⟨dX++l.map fun n=>UInt8.ofNat n⟩⟩:=by
 intro l
 induction l with
 |nil=>intro dX;simp
 |cons n l ih=>
  simp[*]
theorem JZ{P:Program}{o:Oper}{src dst e:TypeId}{x:Operand}(ho:o.op= .convert src dst x)(hs:P.underlying src=some (.slice e))(he:P.underlying e=some (.int .u8))(hd:P.underlying dst=some .string):fj P o Bi:=by
 refine⟨fun y F I w ρ ha hc hr qw=>?_⟩;obtain⟨a,n,cap,l⟩:=y;have hc:mt 1 (bZ l) a n:=hc;have hr:rl F a (bZ l):=hr;simp only[ho,Op.operands,Bi]at ha;have c5:ρ x= .slice a n cap:=by grind
 have cm:(Conv.bytesToString (.slice a n cap)).run P w= .ok (.string (cQ l)) w:=by
  have jo:=hc.len;rw[Fu]at jo;cases Zo:a with
  |none=>
   subst Zo;cases hc with
   |nil h=>
    have:l=[]:=by cases l with|nil=>rfl|cons a l=>simp[bZ]at h
    subst this;rfl
  |some ad=>
   subst Zo;have xD:∀i u,(bZ l)[i]?=some u->w.cell? (ad.add i)=some u:=fun i u hi=>qw.zH (hr ad rfl i u hi);have hl:=run_loadCells_list (P:=P) w ad (bZ l) (fun j v hj=>xD j v hj);rw[Fu,jo,Nat.mul_one]at hl;have iD:(loadCells ad n).run P w= .ok ((l.map fun(k:Nat)=>(k:Int)).map (int .u8)).toArray w:=by
    rw[hl];simp[bZ,Function.comp_def]
   rw[run_bytesToString w ad n cap _ iD];have:=ahT l [];rw[List.nil_append]at this;exact congrArg (fun b=>Result.ok (string b) w) this
 refine⟨(),I,w,.string (cQ l),ao,.inl ?_,rfl,a7.le_refl I,qw,cE.refl w⟩;simp only[execOp,ho,c5];show((convert src dst (.slice a n cap))>>=fun v=>(pure (Next.value v):Sem Next)).run P w=_;rw[Sem.run_bind,run_convert_bytes_string w src dst e a n cap hs he hd,cm];rfl
theorem aff{d:Nat}(h:d<2^63):i64.wrap (↑(BitVec.ofInt i64.bits (d:Int)&&& BitVec.ofInt i64.bits 1023).toNat:Int)=((d%1024:Nat):Int):=by
 show i64.wrap (↑((BitVec.ofNat 64 d&&& BitVec.ofNat 64 1023:BitVec 64).toNat):Int)=_;have:(BitVec.ofNat 64 d&&& BitVec.ofNat 64 1023).toNat=d%1024:=by
  rw[BitVec.toNat_and,BitVec.toNat_ofNat,BitVec.toNat_ofNat];have h1:d%2^64=d:=Nat.mod_eq_of_lt af;rw[h1];exact Nat.and_two_pow_sub_one_eq_mod d 10
 rw[this];exact dA (i:=.i64) aJ
theorem agJ(n b0 b1 b2 b3:Nat)(h:b0<256):(Lib.decodeN n b0 b1 b2 b3).1>65535->4<=(Lib.decodeN n b0 b1 b2 b3).2:=by
 unfold Lib.decodeN
 repeat' split
 all_goals omega
theorem alH{s:ByteArray}{i c n:Nat}(h:eo s i=some (c,n))(hc:c>65535):4<=n:=by
 unfold eo at h;by_cases hi:i<s.size
 ·rw[bG hi,bf]at h;have h1:=agJ (s.size-i) (bt s i) (bt s (i+1)) (bt s (i+2)) (bt s (i+3)) (iM s i);grind
 grind
structure fq where
 s:ByteArray
def CY:aR where
 X:=fq
 Y:=Int×Int
 args x:=[aj x.s]
 cond x:=x.s.size<=1048576
 aQ _ F:=gE F
 val x y:=.returned (.tuple #[.string (br x.s),.int .i64 y.1,.int .i64 y.2])
structure Dv where
 r:Row
 o:List Nat
 i:Nat
 f:Nat
def ap6(x:fq)(F:ai):Nat->Option Inv:=fun
 |0=>some {X:=Dv,P:=fun d=>bv 5 1 (bZ d.o) d.r/\d.i<=x.s.size/\d.r.n<=2*d.i/\x.s.size<d.i+d.f/\nK x.s (x.s.size+1) 0 []=nK x.s d.f d.i d.o,mu:=fun d=>x.s.size-d.i,lv:=fun d=>[(0,aj x.s),(5,au d.r.a d.r.n d.r.cap),(6,ae d.i)],st:=fun d=>[d.r.A,F]}
 |_=>none
def T4(oo:Oper)(aa:List Value)(k0:FR->Nat->Prop):=fj Tryz.prog oo (wc (5:TypeId) [a_ 0] 1)/\true=true/\∃(z:FR),aa=[ae z.n,ae z.c]/\([]:List ai)=[]/\(0<=z.n/\z.n<=z.c/\z.c*(↑(1:Nat):Int)<=281474976710656/\z.c<=9223372036854775807)/\True/\∀(u0:Nat),True->k0 z u0
def L_(z:Dv)(e0:fq):=bv 5 1 (bZ z.o) z.r/\z.i<=e0.s.size/\z.r.n<=2*z.i/\e0.s.size<z.i+z.f/\nK e0.s (e0.s.size+1) 0 []=nK e0.s z.f z.i z.o
def T5(aa:List Value)(rr:ai)(k0:A2->Nat×Nat->Prop)(k1:A2->Unit->Prop):=aC 49 qA/\true=true/\∃(z:A2),aa=[aj z.s,ae z.i]/\([]:List ai)=[]/\0<=z.i/\gE rr/\(∀(u0:Nat×Nat),eo z.s z.i.toNat=some (u0.fst,u0.snd)->k0 z u0)/\∀(u1:Unit),eo z.s z.i.toNat=none->k1 z u1
def T6(aa:List Value)(pp:List ai)(k0:Dt->Row->Prop):=aC 103 AK/\true=true/\∃(z:Dt),aa=[au z.r.a z.r.n z.r.cap,ae ↑z.u]/\pp=[z.r.A]/\(bv 5 1 (bZ z.l) z.r/\z.u<65536/\z.r.n<=4194304)/\True/\∀(u0:Row),bv 5 1 (bZ (z.l++[z.u/256,z.u%256])) u0/\u0.n=z.r.n+2->k0 z u0
def T7(e0:fq)(e1:ai)(v0 v1:Value)(ss:St)(mm:Nat):=∃(z:Dv),L_ z e0/\(aj e0.s=aj e0.s/\v0=au z.r.a z.r.n z.r.cap/\v1=ae ↑z.i/\True)/\aD ss [(0,z.r.A),(1,e1)]/\e0.s.size-z.i<mm
def Vp(i:Dv)(f:Nat×Nat)(x:fq)(F:ai):Dt->Row->Prop:=fun c b=>bT ((i.i:Int)+(f.snd:Int))/\T7 x F (mf b) (ae ((i.i:Int)+(f.snd:Int))) [(0,b.A),(1,F)] (x.s.size-i.i)
def T8(oo:Oper)(aa:List Value)(rr:ai)(k0:OF->Unit->Prop):=fj Tryz.prog oo Bi/\true=true/\∃(z:OF),aa=[au z.a z.n z.cap]/\([]:List ai)=[]/\mt 1 (bZ z.l) z.a z.n/\rl rr z.a (bZ z.l)/\∀(u0:Unit),True->k0 z u0
theorem ap7(x:fq)(F:ai)(hc:CY.cond x)(hr:CY.aQ x F):bT (2*(x.s.size:Int))/\T4 (a8 Tryz.f88 1 3) [ae 0,ae (2*(x.s.size:Int))] (fun k j=>(∃(a:Dv),L_ a x/\(aj x.s=aj x.s/\au (bJ j) k.n.toNat k.c.toNat=au a.r.a a.r.n a.r.cap/\ae 0=ae ↑a.i/\True)/\aD [(0,F),(1,ag j (iI [a_ 0] k.c.toNat) 5)] [(0,a.r.A),(1,F)])/\aS fun(i:Dv)_=>L_ i x->aP ((i.i:Int)<(x.s.size:Int)) (T5 [aj x.s,ae ↑i.i] (aH [(0,i.r.A),(1,F)] []) (fun g f=>aP ((f.fst:Int)>65535) (((-9223372036854775808:Int)<=(f.fst:Int)-65536/\(f.fst:Int)-65536<=(9223372036854775807:Int))/\bT (55296+((f.fst:Int)-65536).fdiv ((2:Int)^min (Int.toNat (10:Int)) i64.bits))/\T6 [au i.r.a i.r.n i.r.cap,ae (55296+((f.fst:Int)-65536).fdiv ((2:Int)^min (Int.toNat (10:Int)) i64.bits))] [i.r.A] (fun e d=>bT (56320+bY (↑(iC ((f.fst:Int)-65536)&&& iC (1023:Int)).toNat:Int))/\T6 [au d.a d.n d.cap,ae (56320+bY (↑(iC ((f.fst:Int)-65536)&&& iC (1023:Int)).toNat:Int))] [d.A] (Vp i f x F))) (T6 [au i.r.a i.r.n i.r.cap,ae ↑f.fst] [i.r.A] (Vp i f x F))) (fun g a=>aq CY x F (az (tuple ⟨[aj ⟨#[]⟩,ae ↑i.i,ae 10]⟩)) [(0,i.r.A),(1,F)])) (T8 (a8 Tryz.f88 12 1) [au i.r.a i.r.n i.r.cap] (aH [(0,i.r.A),(1,F)] []) (fun b a=>aq CY x F (az (tuple ⟨[aj (cQ b.l),ae 0,ae 0]⟩)) [(0,i.r.A),(1,F)]))):=by
 delta T4 L_ bJ T5 T6 T7 mf Vp T8 aH bT ae a_ aj au ag iC bY aP az aS;have hs:x.s.size<=1048576:=hc;refine⟨aJ,Ed (P:=Tryz.prog) [.int .u8 0] 1 rfl rfl rfl rfl rfl rfl aM rfl,rfl,⟨0,2*x.s.size⟩,rfl,rfl,⟨cN 0,by grind,by grind,by grind⟩,ao,fun b _=>⟨⟨⟨⟨some ⟨b,0,none⟩,0,(2*(x.s.size:Int)).toNat,.cells b (iI [.int .u8 0] (2*(x.s.size:Int)).toNat) 5⟩,[],0,x.s.size+1⟩,⟨.gg b 0 _ (iI [.int .u8 0] _) rfl (by rw[gi,Xb];simp[bZ]) (dC _),dC _,dC _,by simp[*],rfl⟩,aV,aB [1,0]⟩,?_⟩⟩;rintro⟨r,o,i,f⟩ js ⟨h1,h2,h3,h4,h5⟩;dsimp only at h1 h2 h3 h4 h5⊢;refine bl (fun bP=>bp Ei ⟨x.s,i⟩ (by simp[*]) (gE.rest (j:=1) aM hr) ⟨?_,?_⟩) (fun jn=>bp (JZ rfl rfl rfl rfl) ⟨r.a,r.n,r.cap,o⟩ h1.src (WC 0 aM rfl h1) fun _ _=>⟨(0,0),ao,?_,aB [1]⟩)
 ·rintro⟨c,n⟩ fu;have fu:eo x.s (i:Int).toNat=some (c,n):=fu;rw[cB]at fu;obtain⟨f1,f2,f3⟩:=pO fu;obtain⟨f',rfl⟩:∃f',f=f'+1:=⟨f-1,af⟩;have step:nK x.s (f'+1) i o=nK x.s f' (i+n) (o++jz c):=by
   rw[nK,bG (show i<x.s.size by omega),bf,fu]
  dsimp only;refine bl (fun hc=>?_) (fun hc=>?_)
  ·have e1:55296+((↑c:Int)-65536).fdiv (2^min (Int.toNat 10) i64.bits)=((55296+(c-65536)/1024:Nat):Int):=by
    have:(↑c:Int)-65536=((c-65536:Nat):Int):=af;rw[this];show 55296+((c-65536:Nat):Int).fdiv (1024:Int)=_;rw[Int.fdiv_eq_ediv_of_nonneg _ af];omega
   have e2:56320+i64.wrap (↑(BitVec.ofInt i64.bits ((↑c:Int)-65536)&&& BitVec.ofInt i64.bits 1023).toNat:Int)=((56320+(c-65536)%1024:Nat):Int):=by
    have:(↑c:Int)-65536=((c-65536:Nat):Int):=af;rw[this,aff af];omega
   rw[e1,e2];have ew:jz c=[(55296+(c-65536)/1024)/256,(55296+(c-65536)/1024)%256]++[(56320+(c-65536)%1024)/256,(56320+(c-65536)%1024)%256]:=by
    unfold jz;grind
   refine⟨aJ,aJ,W3,rfl,⟨r,o,55296+(c-65536)/1024⟩,rfl,rfl,⟨h1,by grind,by grind⟩,ao,fun y hy=>⟨aJ,W3,rfl,⟨y,_,56320+(c-65536)%1024⟩,rfl,rfl,⟨hy.1,bd,by grind⟩,ao,fun y2 nk=>⟨aJ,⟨y2,o++jz c,i+n,f'⟩,⟨?_,f1,?_,by grind,h5.trans step⟩,⟨rfl,rfl,by rfl,ao⟩,aB [0,1],by grind⟩⟩⟩
   ·grind
   ·have n4:c>65535->4<=n:=fun h=>alH fu h;grind
  ·have ew:jz c=[c/256,c%256]:=by
    unfold jz;grind
   refine bV W3 ⟨r,o,c⟩ ⟨h1,by grind,by grind⟩ fun y hy=>⟨aJ,⟨y,o++jz c,i+n,f'⟩,⟨by simp[*],f1,by grind,by grind,h5.trans step⟩,⟨rfl,rfl,by rfl,ao⟩,aB [0,1],by grind⟩
 ·intro _ fu;have fu:eo x.s (i:Int).toNat=none:=fu;rw[cB]at fu;obtain⟨f',rfl⟩:∃f',f=f'+1:=⟨f-1,af⟩;refine⟨(i,10),ao,?_,aB [1]⟩;have:br x.s=⟨#[]⟩:=by
   unfold br;rw[h5,nK,bG (show i<x.s.size by omega),bf,fu];rfl
  show returned _=returned (.tuple #[.string (br x.s),_,_]);rw[this]
 ·have:br x.s=cQ o:=by
   unfold br;rw[h5];cases f with
   |zero=>rfl
   |succ f=>rw[nK,bK (show ¬i<x.s.size by omega)];rfl
  show returned _=returned (.tuple #[.string (br x.s),_,_]);rw[this]
theorem acC:aC 88 CY:=fo 49 Tryz.func88 (fun _ _=>[(1,3,.o (wc 5 [.int .u8 0] 1) [] [1]),(4,2,aX qA),(9,4,bq AK),(9,8,bq AK),(10,2,bq AK),(12,1,.o Bi [] [])]) [] ap6 aY bz [] ap7
end
section
open Go
def wC:aR where
 X:=fq
 args x:=[aj x.s]
 cond x:=x.s.size<=1048576
 aQ _ F:=gE F
 val x _:=az (aj (br x.s))
def wOv(_x:fq)(_F:ai):List (Nat×Nat×OH):=[(1,1,aX CY)]
def T9(aa:List Value)(rr:ai)(k0:fq->Int×Int->Prop):=aC 88 CY/\true=true/\∃(z:fq),aa=[aj z.s]/\([]:List ai)=[]/\z.s.size<=1048576/\gE rr/\∀(u0:Int×Int),True->k0 z u0
theorem aqc(x:fq)(F:ai)(hc:wC.cond x)(hr:wC.aQ x F):T9 [aj x.s] (cX F) (fun b a=>aq wC x F (az (aj (br b.s))) [(0,F)]):=by
 delta T9 cX aH aj az;exact bp acC x hc (gE.rest (j:=0) aM hr) fun _ _=>lJ
theorem Ow:aC 73 wC:=fo 13 Tryz.func73 wOv [] aY aY bz [] aqc
theorem aqm(x:fq)(F:ai)(hc:wC.cond x)(hr:wC.aQ x F):T9 [aj x.s] (cX F) (fun b a=>aq wC x F (az (aj (br b.s))) [(0,F)]):=by
 delta T9 cX aH aj az;exact bp acC x hc (gE.rest (j:=0) aM hr) fun _ _=>lJ
theorem W_:aC 121 wC:=fo 13 Tryz.func121 wOv [] aY aY bz [] aqm
structure Gl(F:ai):Prop where
 qQ:gE F
 mx:∃m,aO F ⟨4,0,none⟩ (.int .i64 m)
 Le:∀i m,jK[i]?=some m->aO F ⟨2,i,none⟩ (.string m)
theorem Gl.sub{A B:ai}(h:Gl A)(hs:Sub A B):Gl B:=⟨h.qQ.sub hs,let ⟨m,hm⟩:=h.mx;⟨m,hm.sub hs⟩,fun i m hm=>(h.Le i m hm).sub hs⟩
theorem Gl.rest{S:St}{bF:List Nat}{j:Nat}(hj:j∉bF)(h:Gl (gt S j)):Gl (.dv (rest S bF)):=⟨h.qQ.rest hj,let ⟨m,hm⟩:=h.mx;⟨m,hm.rest hj⟩,fun i m hm=>(h.Le i m hm).rest hj⟩
structure gV where
 a:ByteArray
 b:ByteArray
def kz(s p:ByteArray):Bool:=decide (s.size>=p.size)&&(s.extract 0 p.size).toList==p.toList
def pL:aR where
 X:=gV
 args x:=[aj x.a,aj x.b]
 val x _:=az (ak (kz x.a x.b))
theorem ajm(x:gV)(F:ai)(hc:pL.cond x)(hr:pL.aQ x F):aP ((x.a.size:Int)>=(x.b.size:Int)) (((0:Int)<=(0:Int)/\0<=(x.b.size:Int)/\(x.b.size:Int)<=(x.a.size:Int))/\aq pL x F (az (ak ((x.a.extract (Int.toNat (0:Int)) (x.b.size:Int).toNat).toList==x.b.toList))) [(0,F)]) (aq pL x F c7 [(0,F)]):=by
 delta dq c7 ak aP az;have e0:(↑x.b.size:Int).toNat=x.b.size:=cB _;refine bl (fun h=>⟨⟨af,af,af⟩,(),ao,mh ?_,aB [0]⟩) (fun h=>⟨(),ao,mh ?_,aB [0]⟩)
 ·unfold kz;grind
 ·unfold kz;grind
theorem ajl:aC 68 pL:=fo 18 Tryz.func68 (fun _ _=>[]) [] aY aY bz [] ajm
def xa(ff:FuncId)(aa:List Value)(k0:gV->Unit->Prop):=aC ff pL/\true=true/\∃(z:gV),aa=[aj z.a,aj z.b]/\([]:List ai)=[]/\True/\True/\∀(u0:Unit),True->k0 z u0
theorem ajj(x:gV)(F:ai)(hc:pL.cond x)(hr:pL.aQ x F):xa 68 [aj x.a,aj x.b] (fun b a=>aq pL x F (az (ak (kz b.a b.b))) [(0,F)]):=by
 delta xa aj ak az;exact nf ajl x fun _ _=>lJ
theorem GS:aC 50 pL:=fo 8 Tryz.func50 (fun _ _=>[(1,2,aX pL)]) [] aY aY bz [] ajj
def K8:aR where
 X:=gV
 args x:=[aj x.a,aj x.b]
 cond x:=x.a.size<=1048576
 aQ _ F:=Gl F
 val x _:=az (ae (Lib.index x.a.data.toList x.b.data.toList))
theorem RowKit.Below.of_eq{B:Nat}{w w':World}(h:w'=w):RowKit.Below B w w':=h▸RowKit.Below.refl B w
theorem akd:aC 52 K8:=ud K8 (fun _=>rfl) (fun _ _=>()) (fun _ _=>ao) (fun _ _=>rfl) fun x F I w hc hr hs=>by
 obtain⟨m,hm⟩:=hr.mx;have hc:x.a.size<=1048576:=hc;exact(Go.Proofs.Tryz.strings_Index x.a x.b m w af (hs.zH hm)).mono fun e w' h=>⟨h.1,RowKit.Below.of_eq h.2⟩
def Gq:aR where
 X:=gV
 args x:=[aj x.a,aj x.b]
 cond x:=x.a.size<=1048576
 aQ _ F:=Gl F
 val x _:=az (ak (Lib.contains x.a.data.toList x.b.data.toList))
theorem Yx:aC 70 Gq:=ud Gq (fun _=>rfl) (fun _ _=>()) (fun _ _=>ao) (fun _ _=>rfl) fun x F I w hc hr hs=>by
 obtain⟨m,hm⟩:=hr.mx;have hc:x.a.size<=1048576:=hc;exact(Go.Proofs.Tryz.strings_Contains x.a x.b m w af (hs.zH hm)).mono fun e w' h=>⟨h.1,RowKit.Below.of_eq h.2⟩
variable{c:Nat}
theorem BY(h:c=10\/c=13\/c=8232\/c=8233):kX c=true:=by rcases h with rfl|rfl|rfl|rfl <;> rfl
theorem Lj(e1:((c:Int)==10)=false)(e2:((c:Int)==13)=false)(e3:((c:Int)==8232)=false)(e4:((c:Int)==8233)=false):kX c=false:=by
 have e1:=ga.1 e1;have e2:=ga.1 e2;have e3:=ga.1 e3;have e4:=ga.1 e4;unfold kX;grind
structure ui where
 l:cM
 s:ByteArray
structure fk where
 i:Nat
 f:Nat
 aK:Bool
def yt(x:ui):Option Addr:=some ⟨x.l.b,0,none⟩
def HZ(x:ui):List Value:=[aj x.l.src,ae x.l.i,ak x.l.aK,au x.l.oa x.l.on x.l.oc]
def wH:aR where
 X:=ui
 args x:=[ah (yt x),aj x.s]
 pre x:=[ag x.l.b (HZ x) 68]
 cond x:=x.s.size<=1048576
 aQ _ F:=Gl F
 val x _:=az (ak (gc x.s (x.s.size+1) 0 x.l.aK).1)
 post x _:=[ag x.l.b [aj x.l.src,ae x.l.i,ak (gc x.s (x.s.size+1) 0 x.l.aK).2,au x.l.oa x.l.on x.l.oc] 68]
def Wp(x:ui)(d:fk):List Value:=[aj x.l.src,ae x.l.i,ak d.aK,au x.l.oa x.l.on x.l.oc]
def an6(x:ui)(F:ai):Nat->Option Inv:=fun
 |0=>some {X:=fk,P:=fun d=>d.i<=x.s.size/\x.s.size<d.i+d.f/\gc x.s (x.s.size+1) 0 x.l.aK=gc x.s d.f d.i d.aK,mu:=fun d=>x.s.size-d.i,lv:=fun d=>[(0,ah (yt x)),(1,aj x.s),(5,ae d.i)],st:=fun d=>[ag x.l.b (Wp x d) 68,F]}
 |_=>none
def MB(z:fk)(e0:ui):=z.i<=e0.s.size/\e0.s.size<z.i+z.f/\gc e0.s (e0.s.size+1) 0 e0.l.aK=gc e0.s z.f z.i z.aK
def B9(e0:ui)(z:fk)(e1:ai):=[(0,ag e0.l.b (Wp e0 z) 68),(1,e1)]
def O7(e0:ui)(e1:ai)(v0:Value)(ss:St)(mm:Nat):=∃(z:fk),MB z e0/\(ah (yt e0)=ah (yt e0)/\aj e0.s=aj e0.s/\v0=ae ↑z.i/\True)/\aD ss (B9 e0 z e1)/\e0.s.size-z.i<mm
def Im(x:ui)(e:fk)(b:Nat×Nat)(F:ai):=ax x.l.b 2/\bT ((e.i:Int)+(b.snd:Int))/\O7 x F (ae ((e.i:Int)+(b.snd:Int))) [(0,ag x.l.b [aj x.l.src,ae x.l.i,ak true,au x.l.oa x.l.on x.l.oc] 68),(1,F)] (x.s.size-e.i)
theorem an8(x:ui)(F:ai)(hc:wH.cond x)(hr:wH.aQ x F):(∃(a:fk),MB a x/\(ah (yt x)=ah (yt x)/\aj x.s=aj x.s/\ae 0=ae ↑a.i/\True)/\aD [(0,ag x.l.b (HZ x) 68),(1,F)] (B9 x a F))/\aS fun(e:fk)_=>MB e x->aP ((e.i:Int)<(x.s.size:Int)) (T5 [aj x.s,ae ↑e.i] (aH (B9 x e F) []) (fun c b=>Br ((b.fst:Int)==10) (Im x e b F) (Br ((b.fst:Int)==13) (Im x e b F) (Br ((b.fst:Int)==8232) (Im x e b F) (Br ((b.fst:Int)==8233) (Im x e b F) (bT ((e.i:Int)+(b.snd:Int))/\O7 x F (ae ((e.i:Int)+(b.snd:Int))) (B9 x e F) (x.s.size-e.i)))))) (fun c a=>aq wH x F c7 (B9 x e F))) (aq wH x F jv (B9 x e F)):=by
 delta MB yt HZ Wp B9 T5 O7 Im dq c7 jv aH ax bT ae aj ak ah au ag aP az aS;have hs:x.s.size<=1048576:=hc;refine⟨⟨⟨0,x.s.size+1,x.l.aK⟩,⟨dC _,by simp[*],rfl⟩,aV,aB [0,1]⟩,?_⟩;rintro⟨i,f,aK⟩ js ⟨h1,h2,h3⟩;dsimp only at h1 h2 h3⊢;obtain⟨f',rfl⟩:∃f',f=f'+1:=⟨f-1,af⟩;refine bl (fun bP=>bp Ei ⟨x.s,i⟩ (by simp[*]) (gE.rest (j:=1) aM hr.qQ) ⟨?_,?_⟩) (fun jn=>⟨(),ao,mh ?_,?_⟩)
 ·rintro⟨c,n⟩ fu;have fu:eo x.s (i:Int).toNat=some (c,n):=fu;rw[cB]at fu;obtain⟨f1,f2,f3⟩:=pO fu;have step:gc x.s (f'+1) i aK=gc x.s f' (i+n) (aK||kX c):=by
   rw[gc,bG (show i<x.s.size by omega),bf,fu]
  dsimp only;refine aG (fun e=>?_) (fun e1=>aG (fun e=>?_) (fun e2=>aG (fun e=>?_) (fun e3=>aG (fun e=>?_) (fun e4=>?_))))
  case refine_5=>
   have hn:kX c=false:=Lj e1 e2 e3 e4;exact⟨aJ,⟨i+n,f',aK⟩,⟨f1,by grind,h3.trans (by simp[*])⟩,⟨rfl,rfl,by rfl,ao⟩,aB [0,1],by grind⟩
  all_goals
   have hn:kX c=true:=BY (by grind);exact⟨ap,aJ,⟨i+n,f',true⟩,⟨f1,by grind,h3.trans (by simp[*])⟩,⟨rfl,rfl,by rfl,ao⟩,aB [0,1],by grind⟩
 ·intro _ fu;have fu:eo x.s (i:Int).toNat=none:=fu;rw[cB]at fu;have e:gc x.s (x.s.size+1) 0 x.l.aK=(false,aK):=by
   rw[h3,gc,bG (show i<x.s.size by omega),bf,fu]
  exact⟨(),ao,mh (by rw[e]),aD.pick [0,1] rfl (by rw[show wH.post x ()=_ from rfl];simp only[wH,e];rfl)⟩
 ·rw[h3,gc,bK (show ¬i<x.s.size by omega)];rfl
 ·have e:gc x.s (x.s.size+1) 0 x.l.aK=(true,aK):=by
   rw[h3,gc,bK (show ¬i<x.s.size by omega)];rfl
  exact aD.pick [0,1] rfl (by simp only[wH,e];rfl)
theorem an7:aC 53 wH:=fo 42 Tryz.func53 (fun _ _=>[(3,2,aX qA)]) [(7,3,.w [LH.z00 (0:Nat)])] an6 aY bz [] an8
end
section
open Go
theorem ZS(s:ByteArray)(i:Nat)(t:List Nat)(ht:∀b∈t,b<256)(hi:i<=s.size):ij s i t=(t.map fun n=>UInt8.ofNat n).isPrefixOf (s.data.toList.drop i):=by
 rw[Bool.eq_iff_iff,List.isPrefixOf_iff_prefix,List.prefix_iff_getElem?];unfold ij;rw[kT,decide_eq_true_eq,List.all_eq_true];have gx:s.data.toList.length=s.size:=aM;constructor
 ·rintro⟨h1,h2⟩ k hk;have s9:k<t.length:=by grind
  have:=h2 k (List.mem_range.2 s9);rw[beq_iff_eq]at this;have bP:i+k<s.data.toList.length:=af;rw[List.getElem?_drop,gv bP];congr 1;simp only[List.getElem_map];have hb:bt s (i+k)=(s.data.toList[i+k]).toNat:=by
   unfold bt;grind
  rw[hb,fD,gv s9]at this;have h3:s.data.toList[i+k].toNat=t[k]:=this;rw[<-h3,UInt8.ofNat_toNat]
 ·intro h;have key:∀k(hk:k<t.length),i+k<s.size/\bt s (i+k)=t[k]:=by
   intro k hk;have:=h k (by simp[*]);rw[List.getElem?_drop]at this;simp only[List.getElem_map]at this;have bP:i+k<s.data.toList.length:=by
    grind
   refine⟨af,?_⟩;unfold bt;rw[<-Array.getElem?_toList,this];simp[*]
  refine⟨?_,fun k hk=>?_⟩
  ·rcases Nat.eq_zero_or_pos t.length with h0|h0
   ·omega
   ·have:=(key (t.length-1) af).1;omega
  grind
theorem aji(s p:ByteArray):kz s p=p.data.toList.isPrefixOf s.data.toList:=by
 unfold kz;rw[Bool.eq_iff_iff,List.isPrefixOf_iff_prefix,kT,decide_eq_true_eq,beq_iff_eq];have hs:s.data.toList.length=s.size:=aM;have hp:p.data.toList.length=p.size:=aM;have e:(s.extract 0 p.size).toList=s.data.toList.take p.size:=by rw[ByteArray.toList_eq];simp
 rw[e,ByteArray.toList_eq,List.prefix_iff_eq_take,hp];grind
theorem Q9(s:ByteArray)(i:Nat):(s.extract i s.size).data.toList=s.data.toList.drop i:=by
 rw[ByteArray.data_extract];have:s.data.size=s.size:=rfl;simp only[Array.toList_extract,List.extract_eq_take_drop];exact List.take_of_length_le aM
theorem R5{s:ByteArray}{i:Nat}{t:List Nat}(ht:∀b∈t,b<256)(hi:i<=s.size):kz (s.extract i s.size) (cQ t)=ij s i t:=by
 rw[aji,ZS s i t ht hi,Q9];rfl
theorem index_ge(l sub:List UInt8): -1<=Lib.index l sub:=by
 induction l with
 |nil=>unfold Lib.index;split <;> omega
 |cons b l ih=>unfold Lib.index;split;omega;split <;> omega
theorem ajX(s:ByteArray)(t:List Nat)(ht:∀b∈t,b<256):∀(f i:Nat),s.size<i+f->i<=s.size->
  vV s t f i=if Lib.index (s.data.toList.drop i) (t.map fun n=>UInt8.ofNat n)= -1 then none else some (i+(Lib.index (s.data.toList.drop i) (t.map fun n=>UInt8.ofNat n)).toNat):=by
 intro f
 induction f with
 |zero=>intro i h1 h2;omega
 |succ f ih=>
  intro i h1 h2;have hs:s.data.toList.length=s.size:=aM;rw[vV,ZS s i t ht h2];by_cases bP:i<s.size
  ·have hd:s.data.toList.drop i=s.data.toList[i]'(af)::s.data.toList.drop (i+1):=List.drop_eq_getElem_cons af;rw[hd,bG bP];unfold Lib.index;cases hp:(t.map fun n=>UInt8.ofNat n).isPrefixOf (s.data.toList[i]'(af)::s.data.toList.drop (i+1))with
   |true=>simp
   |false=>
    rw[aU,bf,ih (i+1) af af];have jn:=index_ge (s.data.toList.drop (i+1)) (t.map fun n=>UInt8.ofNat n);generalize Lib.index (s.data.toList.drop (i+1)) (t.map fun n=>UInt8.ofNat n)=q at*;by_cases hq:q= -1
    all_goals grind
  ·have hd:s.data.toList.drop i=[]:=List.drop_eq_nil_of_le af;rw[hd,bK bP];unfold Lib.index;grind
theorem aj2(l sub:List UInt8):Lib.index l sub+sub.length<=l.length\/Lib.index l sub= -1:=by
 induction l with
 |nil=>
  unfold Lib.index;grind
 |cons b l ih=>
  unfold Lib.index;grind
variable{c:Nat}
theorem ao_(h:c=9\/c=11\/c=12\/c=32\/c=160\/c=65279):x6 c=true:=by rcases h with rfl|rfl|rfl|rfl|rfl|rfl <;> rfl
theorem ao7(e1:((c:Int)==9)=false)(e2:((c:Int)==11)=false)(e3:((c:Int)==12)=false)(e4:((c:Int)==32)=false)(e5:((c:Int)==160)=false)(e6:((c:Int)==65279)=false):x6 c=false:=by
 have e1:=ga.1 e1;have e2:=ga.1 e2;have e3:=ga.1 e3;have e4:=ga.1 e4;have e5:=ga.1 e5;have e6:=ga.1 e6;unfold x6;rw[ga.2 (show c≠9 by omega),ga.2 (show c≠11 by omega),ga.2 (show c≠12 by omega),ga.2 (show c≠32 by omega),ga.2 (show c≠160 by omega),ga.2 (show c≠65279 by omega)];rfl
end
section
open Go
theorem anY(s:ByteArray):∀(f g i:Nat)(aK:Bool),s.size<i+f->s.size<i+g->gc s f i aK=gc s g i aK:=by
 intro f
 induction f with
 |zero=>
  intro g i aK h1 h2;cases g with
  |zero=>rfl
  |succ g=>rw[gc,gc,bK (show ¬i<s.size by omega)];rfl
 |succ f ih=>
  intro g i aK h1 h2;cases g with
  |zero=>rw[gc,gc,bK (show ¬i<s.size by omega)];rfl
  |succ g=>
   rw[gc,gc];by_cases hi:i<s.size
   ·rw[bG hi,bf,bf];cases hn:eo s i with
    |none=>rfl
    |some p=>
     obtain⟨c,n⟩:=p;have:=pO hn;grind
   simp[*]
def qC(x:cM):List Value:=[aj x.src,ae x.i,ak x.aK,au x.oa x.on x.oc]
def rv:aR where
 X:=cM
 args x:=[ah (gP x)]
 pre x:=[ag x.b (qC x) 68]
 cond x:=0<=x.i/\x.i<=x.src.size/\x.src.size<=1048576
 aQ _ F:=Gl F
 val x _:=az (ae (eG x.src (x.src.size+1) x.i.toNat x.aK).1)
 post x _:=[ag x.b [aj x.src,ae ((eG x.src (x.src.size+1) x.i.toNat x.aK).2.1:Nat),ak (eG x.src (x.src.size+1) x.i.toNat x.aK).2.2,au x.oa x.on x.oc] 68]
structure kM where
 i:Nat
 f:Nat
 aK:Bool
 k:Nat
def Ye:(T:Type)×(fk×kM->T):=⟨kM,fun d=>d.2⟩
def afO(x:cM)(F:ai):Nat->Option Inv:=fun
 |0=>some {X:=kM,P:=fun d=>d.i<=x.src.size/\x.src.size<d.i+d.f/\eG x.src (x.src.size+1) x.i.toNat x.aK=eG x.src d.f d.i d.aK,mu:=fun d=>x.src.size-d.i,lv:=fun d=>[(0,ah (gP x))],st:=fun d=>[ag x.b [aj x.src,ae d.i,ak d.aK,au x.oa x.on x.oc] 68,F]}
 |3=>some {X:=fk×kM,P:=fun d=>d.2.i<=d.1.i/\d.1.i<=x.src.size/\x.src.size<d.1.i+d.1.f/\kZ x.src (x.src.size+1) d.2.i=kZ x.src d.1.f d.1.i,mu:=fun d=>x.src.size-d.1.i,lv:=fun d=>[(0,ah (gP x))],st:=fun d=>[ag x.b [aj x.src,ae d.1.i,ak d.2.aK,au x.oa x.on x.oc] 68,F],gh:=some Ye}
 |_=>none
def Mh(z:kM)(e0:cM):=z.i<=e0.src.size/\e0.src.size<z.i+z.f/\eG e0.src (e0.src.size+1) e0.i.toNat e0.aK=eG e0.src z.f z.i z.aK
def H2(e0:cM):=ah (gP e0)=ah (gP e0)/\True
def Al(x:cM)(F:ai):=[(0,ag x.b (qC x) 68),(1,F)]
def rS(e0:cM)(z:kM)(e1:ai):=[(0,ag e0.b [aj e0.src,ae ↑z.i,ak z.aK,au e0.oa e0.on e0.oc] 68),(1,e1)]
def FZ(e0:cM)(e1:ai)(ss:St)(mm:Nat):=∃(z:kM),Mh z e0/\H2 e0/\aD ss (rS e0 z e1)/\e0.src.size-z.i<mm
def Il(x:cM)(q:kM)(n:Nat×Nat)(F:ai):=ax x.b 2/\ax x.b 1/\bT ((q.i:Int)+(n.snd:Int))/\ax x.b 1/\FZ x F [(0,ag x.b [aj x.src,ae ((q.i:Int)+(n.snd:Int)),ak true,au x.oa x.on x.oc] 68),(1,F)] (x.src.size-q.i)
def tB(x:cM)(q:kM)(n:Nat×Nat)(F:ai):=ax x.b 1/\bT ((q.i:Int)+(n.snd:Int))/\ax x.b 1/\FZ x F [(0,ag x.b [aj x.src,ae ((q.i:Int)+(n.snd:Int)),ak q.aK,au x.oa x.on x.oc] 68),(1,F)] (x.src.size-q.i)
def wt(z:cM):=0<=z.i/\z.i<=z.src.size/\z.src.size<=1048576
def F2(aa:List Value)(rr:ai)(k0:cM->Unit->Prop):=aC 51 Av/\true=true/\∃(z:cM),aa=[ah (gP z)]/\([]:List ai)=[]/\wt z/\q_ z rr/\∀(u0:Unit),True->k0 z u0
def L0(a:fk×kM)(x:cM)(f:kM):=(a.snd.i<=a.fst.i/\a.fst.i<=x.src.size/\x.src.size<a.fst.i+a.fst.f/\kZ x.src (x.src.size+1) a.snd.i=kZ x.src a.fst.f a.fst.i)/\Ye.snd a=f
def E5(x:cM)(a:fk×kM)(F:ai):=[(0,ag x.b [aj x.src,ae ↑a.fst.i,ak a.snd.aK,au x.oa x.on x.oc] 68),(1,F)]
def EY(x:cM)(F:ai)(e:fk×kM)(q:kM):=FZ x F (E5 x e F) (x.src.size-q.i)
def MC(q:kM):=(-9223372036854775808:Int)<=(q.i:Int)+2/\(q.i:Int)+2<=(9223372036854775807:Int)
def u2:=az (ae (-1))
theorem afR(x:cM)(F:ai)(hc:rv.cond x)(hr:rv.aQ x F):(∃(a:kM),Mh a x/\H2 x/\aD (Al x F) (rS x a F))/\aS fun(q:kM)_=>Mh q x->true=true/\ax x.b 1/\ax x.b 0/\aP ((q.i:Int)<(x.src.size:Int)) (true=true/\ax x.b 0/\ax x.b 1/\T5 [aj x.src,ae ↑q.i] (aH (rS x q F) []) (fun o n=>Br ((n.fst:Int)==10) (Il x q n F) (Br ((n.fst:Int)==13) (Il x q n F) (Br ((n.fst:Int)==8232) (Il x q n F) (Br ((n.fst:Int)==8233) (Il x q n F) (Br ((n.fst:Int)==9) (tB x q n F) (Br ((n.fst:Int)==11) (tB x q n F) (Br ((n.fst:Int)==12) (tB x q n F) (Br ((n.fst:Int)==32) (tB x q n F) (Br ((n.fst:Int)==160) (tB x q n F) (Br ((n.fst:Int)==65279) (tB x q n F) (F2 [ah (gP x)] (aH (rS x q F) []) (fun m l=>xa 50 [aj (m.src.extract m.i.toNat m.src.size),aj ⟨#[47,47]⟩] (fun k j=>Br (kz k.a k.b) (∃(f:kM),(∃(a:fk×kM),L0 a x f/\H2 x/\aD (rS x q F) (E5 x a F))/\aS fun(e:fk×kM)_=>L0 e x f->true=true/\ax x.b 1/\ax x.b 0/\aP ((e.fst.i:Int)<(x.src.size:Int)) (true=true/\ax x.b 0/\ax x.b 1/\T5 [aj x.src,ae ↑e.fst.i] (aH (E5 x e F) []) (fun c b=>Br ((b.fst:Int)==10) (EY x F e q) (Br ((b.fst:Int)==13) (EY x F e q) (Br ((b.fst:Int)==8232) (EY x F e q) (Br ((b.fst:Int)==8233) (EY x F e q) (ax x.b 1/\bT ((e.fst.i:Int)+(b.snd:Int))/\ax x.b 1/\∃(a:fk×kM),L0 a x f/\H2 x/\aD [(0,ag x.b [aj x.src,ae ((e.fst.i:Int)+(b.snd:Int)),ak e.snd.aK,au x.oa x.on x.oc] 68),(1,F)] (E5 x a F)/\x.src.size-a.fst.i<x.src.size-e.fst.i))))) (fun c a=>ax x.b 1/\aq rv x F (az (ae ↑e.fst.i)) (E5 x e F))) (EY x F e q)) (F2 [ah (gP x)] (aH (rS x q F) []) (fun i h=>xa 50 [aj (i.src.extract i.i.toNat i.src.size),aj ⟨#[47,42]⟩] (fun g f=>Br (kz g.a g.b) (true=true/\ax x.b 0/\ax x.b 1/\MC q/\(0<=(q.i:Int)+2/\(q.i:Int)+2<=(x.src.size:Int)/\(x.src.size:Int)<=(x.src.size:Int))/\aC 52 K8/\true=true/\∃(e:gV),[aj (x.src.extract ((q.i:Int)+2).toNat (x.src.size:Int).toNat),aj ⟨#[42,47]⟩]=[aj e.a,aj e.b]/\([]:List ai)=[]/\e.a.size<=1048576/\Gl (aH (rS x q F) [])/\∀(d:Unit),True->true=true/\aP (Lib.index e.a.data.toList e.b.data.toList<0) (ax x.b 1/\aq rv x F (az (ae ↑q.i)) (rS x q F)) (ax x.b 0/\ax x.b 1/\MC q/\ax x.b 1/\MC q/\bT ((q.i:Int)+2+Lib.index e.a.data.toList e.b.data.toList)/\(0<=(q.i:Int)+2/\(q.i:Int)+2<=(q.i:Int)+2+Lib.index e.a.data.toList e.b.data.toList/\(q.i:Int)+2+Lib.index e.a.data.toList e.b.data.toList<=x.src.size)/\aC 53 wH/\true=true/\∃(c:ui),[ah (gP x),aj (x.src.extract ((q.i:Int)+2).toNat ((q.i:Int)+2+Lib.index e.a.data.toList e.b.data.toList).toNat)]=[ah (yt c),aj c.s]/\[ag x.b [aj x.src,ae ↑q.i,ak q.aK,au x.oa x.on x.oc] 68]=[ag c.l.b (HZ c) 68]/\c.s.size<=1048576/\Gl (aH (rS x q F) [0])/\∀(b:Unit),True->Br (!(gc c.s (c.s.size+1) 0 c.l.aK).fst) (dS ⟨x.b,1,none⟩ c.l.b/\aq rv x F (az (ae c.l.i)) [(0,ag c.l.b [aj c.l.src,ae c.l.i,ak (gc c.s (c.s.size+1) 0 c.l.aK).snd,au c.l.oa c.l.on c.l.oc] 68),(1,F)]) (dS ⟨x.b,1,none⟩ c.l.b/\((-9223372036854775808:Int)<=Lib.index e.a.data.toList e.b.data.toList+4/\Lib.index e.a.data.toList e.b.data.toList+4<=(9223372036854775807:Int))/\bT (c.l.i+(Lib.index e.a.data.toList e.b.data.toList+4))/\dS ⟨x.b,1,none⟩ c.l.b/\FZ x F [(0,ag c.l.b [aj c.l.src,ae (c.l.i+(Lib.index e.a.data.toList e.b.data.toList+4)),ak (gc c.s (c.s.size+1) 0 c.l.aK).snd,au c.l.oa c.l.on c.l.oc] 68),(1,F)] (x.src.size-q.i)))) (aq rv x F u2 (rS x q F)))))))))))))))))) (fun o a=>ax x.b 1/\aq rv x F (az (ae ↑q.i)) (rS x q F))) (aq rv x F u2 (rS x q F)):=by
 delta Mh gP H2 qC Al rS T5 FZ Il tB wt F2 xa L0 E5 EY MC yt HZ u2 aH ax bT ae aj ak ah au ag aP az aS;obtain⟨h0,bS,hs⟩:=hc;refine⟨⟨⟨x.i.toNat,x.src.size+1,x.aK,0⟩,⟨bd,bd,rfl⟩,⟨rfl,ao⟩,aD.pick [0,1] rfl (by dsimp only;rw[Int.toNat_of_nonneg h0];rfl)⟩,?_⟩;rintro⟨i,f,aK,k0⟩ js ⟨h1,h2,h3⟩;dsimp only at h1 h2 h3⊢;have fin:∀{p:Int}{j:Nat}{ln:Bool},eG x.src f i aK=(p,j,ln)->aq rv x F (returned (int i64 p)) [(0,ai.cells x.b [string x.src,int i64 (j:Int),bool ln,slice x.oa x.on x.oc] 68),(1,F)]:=fun{p j ln}e=>by
  have e':=h3.trans e;exact⟨(),ao,by show returned _=returned (.int .i64 (eG x.src (x.src.size+1) x.i.toNat x.aK).1);rw[e'],aD.pick [0,1] rfl (by simp only[rv,e'];rfl)⟩
 obtain⟨f',rfl⟩:∃f',f=f'+1:=⟨f-1,af⟩;refine⟨rfl,ap,ap,bl (fun bP=>⟨rfl,ap,ap,Ei,rfl,⟨x.src,i⟩,rfl,rfl,bd,gE.rest (j:=1) aM hr.qQ,?_,?_⟩) (fun jn=>fin (by rw[eG,bK (show ¬i<x.src.size by omega)];rfl))⟩
 ·rintro⟨c,n⟩ fu;have fu:eo x.src (i:Int).toNat=some (c,n):=fu;rw[cB]at fu;obtain⟨f1,f2,f3⟩:=pO fu;have go:eG x.src (f'+1) i aK=bif kX c then eG x.src f' (i+n) true else bif x6 c then eG x.src f' (i+n) aK else bif ij x.src i [47,47] then bif (kZ x.src (x.src.size+1) i).2 then eG x.src f' (kZ x.src (x.src.size+1) i).1 aK else ((kZ x.src (x.src.size+1) i).1,(kZ x.src (x.src.size+1) i).1,aK) else bif ij x.src i [47,42] then (match vV (x.src.extract (i+2) x.src.size) [42,47] (x.src.size+1) 0 with|none=>((i:Int),i,aK)|some k=>let r:=gc (x.src.extract (i+2) (i+2+k)) (x.src.size+1) 0 aK;bif r.1 then eG x.src f' (i+k+4) r.2 else ((i:Int),i,r.2)) else (-1,i,aK):=by
   rw[eG,bG (show i<x.src.size by omega),bf,fu]
   try rfl
  dsimp only;refine aG (fun e=>?_) (fun e1=>aG (fun e=>?_) (fun e2=>aG (fun e=>?_) (fun e3=>aG (fun e=>?_) (fun e4=>?_))))
  case refine_5=>
   have hn:kX c=false:=Lj e1 e2 e3 e4;rw[hn,aU]at go;refine aG (fun e=>?_) (fun s1=>aG (fun e=>?_) (fun s2=>aG (fun e=>?_) (fun s3=>aG (fun e=>?_) (fun s4=>aG (fun e=>?_) (fun s5=>aG (fun e=>?_) (fun s6=>?_))))))
   case refine_7=>
    have Sa:x6 c=false:=ao7 s1 s2 s3 s4 s5 s6;rw[Sa,aU]at go;have lx:∀{S:St}{b:Nat},gt S 0=ai.cells b [string x.src,int i64 (i:Int),bool aK,slice x.oa x.on x.oc] 68->q_ (cM.mk b x.src (i:Int) aK x.oa x.on x.oc) (.dv (rest S [])):=fun hS=>⟨aO.rest (j:=0) aM (by rw[hS];exact aO.cells rfl),aO.rest (j:=0) aM (by rw[hS];exact aO.cells rfl)⟩;refine bp WG ⟨x.b,x.src,i,aK,x.oa,x.on,x.oc⟩ ⟨bd,bd,hs⟩ (lx rfl) fun _ _=>nf GS ⟨x.src.extract (i:Int).toNat x.src.size,⟨#[47,47]⟩⟩ fun _ _=>?_;dsimp only;have q1:kz (x.src.extract (i:Int).toNat x.src.size) {data:=#[(47:UInt8),(47:UInt8)]}=ij x.src i [47,47]:=by rw[cB];exact R5 (t:=[47,47]) (by decide) h1
    rw[q1];refine aG (fun hb=>?_) (fun hb=>?_)
    ·rw[hb,bf]at go;refine⟨⟨i,f'+1,aK,0⟩,⟨(⟨i,x.src.size+1,false⟩,⟨i,f'+1,aK,0⟩),⟨⟨cr _,h1,bd,rfl⟩,rfl⟩,⟨rfl,ao⟩,aB [0,1]⟩,?_⟩;rintro⟨⟨i2,f2,l2⟩,d⟩ js2 ⟨⟨g1,g2,g3,g4⟩,hd⟩;have hd:d=⟨i,f'+1,aK,0⟩:=hd;subst hd;dsimp only at g1 g2 g3 g4⊢;obtain⟨DJ,rfl⟩:∃DJ,f2=DJ+1:=⟨f2-1,af⟩;have out:i<i2->kZ x.src (DJ+1) i2=(i2,true)->∃(y:kM),(y.i<=x.src.size/\x.src.size<y.i+y.f/\eG x.src (x.src.size+1) x.i.toNat x.aK=eG x.src y.f y.i y.aK)/\(pointer (some {block:=x.b,off:=0})=pointer (some {block:=x.b,off:=0})/\True)/\aD [(0,ai.cells x.b [string x.src,int i64 (i2:Int),bool aK,slice x.oa x.on x.oc] 68),(1,F)] [(0,ai.cells x.b [string x.src,int i64 (y.i:Int),bool y.aK,slice x.oa x.on x.oc] 68),(1,F)]/\x.src.size-y.i<x.src.size-i:=fun hi he=>by
      rw[g4,he]at go;exact⟨⟨i2,f',aK,0⟩,⟨g2,bd,h3.trans go⟩,⟨rfl,ao⟩,aB [0,1],bd⟩
     refine⟨rfl,ap,ap,bl (fun ai3=>⟨rfl,ap,ap,Ei,rfl,⟨x.src,i2⟩,rfl,rfl,bd,gE.rest (j:=1) aM hr.qQ,?_,?_⟩) (fun ZB=>out af (by rw[kZ,bK (show ¬i2<x.src.size by omega)];rfl))⟩
     ·rintro⟨c2,n2⟩ rF;have rF:eo x.src (i2:Int).toNat=some (c2,n2):=rF;rw[cB]at rF;obtain⟨k1,k2,k3⟩:=pO rF;dsimp only;refine aG (fun e=>?_) (fun e1=>aG (fun e=>?_) (fun e2=>aG (fun e=>?_) (fun e3=>aG (fun e=>?_) (fun e4=>?_))))
      case refine_5=>
       have vP:kX c2=false:=Lj e1 e2 e3 e4;refine⟨ap,aJ,ap,(⟨i2+n2,DJ,false⟩,⟨i,f'+1,aK,0⟩),⟨⟨bd,k1,bd,?_⟩,rfl⟩,⟨rfl,ao⟩,aD.pick [0,1] rfl (by dsimp only;rw[Int.natCast_add];rfl),bd⟩;rw[g4,kZ,bG (show i2<x.src.size by omega),bf,rF];show(bif kX c2 then _ else _)=_;rw[vP,aU]
      all_goals
       have vP:kX c2=true:=BY (by have:=beq_iff_eq.1 e;omega);have hi:i<i2:=by
        rcases Nat.lt_or_ge i i2 with h|h
        ·exact h
        ·have:i2=i:=by omega
         rw[this,fu]at rF;cases rF;rw[hn]at vP;cases vP
       refine out hi ?_;rw[kZ,bG (show i2<x.src.size by omega),bf,rF];show(bif kX c2 then _ else _)=_;rw[vP,bf]
     ·intro _ rF;have rF:eo x.src (i2:Int).toNat=none:=rF;rw[cB]at rF;have e:kZ x.src (x.src.size+1) i=(i2,false):=by
       rw[g4,kZ,bG (show i2<x.src.size by omega),bf,rF]
      rw[e]at go;exact⟨ap,fin go⟩
    ·rw[hb,aU]at go;refine bp WG ⟨x.b,x.src,i,aK,x.oa,x.on,x.oc⟩ ⟨bd,bd,hs⟩ (lx rfl) fun _ _=>nf GS ⟨x.src.extract (i:Int).toNat x.src.size,⟨#[47,42]⟩⟩ fun _ _=>?_;dsimp only;have q2:kz (x.src.extract (i:Int).toNat x.src.size) {data:=#[(47:UInt8),(42:UInt8)]}=ij x.src i [47,42]:=by rw[cB];exact R5 (t:=[47,42]) (by decide) h1
     rw[q2];refine aG (fun rE=>?_) (fun rE=>?_)
     ·rw[rE,bf]at go;have jY:i+2<=x.src.size:=by
       unfold ij at rE;rw[kT,decide_eq_true_eq]at rE;exact rE.1
      have esz:(x.src.extract (i+2) x.src.size).size=x.src.size-(i+2):=by rw[jU];omega
      have YM:vV (x.src.extract (i+2) x.src.size) [42,47] (x.src.size+1) 0=if Lib.index (x.src.extract (i+2) x.src.size).data.toList (ByteArray.mk #[42,47]).data.toList= -1 then none else some (0+(Lib.index (x.src.extract (i+2) x.src.size).data.toList (ByteArray.mk #[42,47]).data.toList).toNat):=ajX (x.src.extract (i+2) x.src.size) [42,47] (by decide) (x.src.size+1) 0 af af
      have jo:(x.src.extract (i+2) x.src.size).data.toList.length=x.src.size-(i+2):=by rw[<-esz];simp
      have og:Lib.index (x.src.extract (i+2) x.src.size).data.toList (ByteArray.mk #[42,47]).data.toList+(2:Nat)<=(x.src.extract (i+2) x.src.size).data.toList.length\/Lib.index (x.src.extract (i+2) x.src.size).data.toList (ByteArray.mk #[42,47]).data.toList= -1:=aj2 _ _;have ZB:=index_ge (x.src.extract (i+2) x.src.size).data.toList (ByteArray.mk #[42,47]).data.toList;rw[jo]at og;have ei:((i:Int)+2).toNat=i+2:=af;refine⟨rfl,ap,ap,aJ,⟨af,af,cN _⟩,akd,rfl,⟨x.src.extract (i+2) x.src.size,⟨#[42,47]⟩⟩,by rw[ei,cB],rfl,bd,Gl.rest (j:=1) aM hr,fun _ _=>⟨rfl,?_⟩⟩;dsimp only;generalize Lib.index (x.src.extract (i+2) x.src.size).data.toList (ByteArray.mk #[42,47]).data.toList=q at*;refine bl (fun hq=>⟨ap,fin ?_⟩) (fun hq=>?_)
      ·rw[go,YM,if_pos af]
      ·obtain⟨k,rfl⟩:∃k:Nat,q=k:=⟨q.toNat,af⟩;have hk:k+2<=x.src.size-(i+2):=af;rw[YM,if_neg af]at go;have e2:((i:Int)+2+(k:Int)).toNat=i+2+k:=af;have er:gc (x.src.extract (i+2) (i+2+k)) (x.src.size+1) 0 aK=gc (x.src.extract (i+2) (i+2+k)) ((x.src.extract (i+2) (i+2+k)).size+1) 0 aK:=anY _ _ _ _ _ (by rw[jU];omega) af;have Rr:eG x.src (f'+1) i aK=bif (gc (x.src.extract (i+2) (i+2+k)) ((x.src.extract (i+2) (i+2+k)).size+1) 0 aK).1 then eG x.src f' (i+k+4) (gc (x.src.extract (i+2) (i+2+k)) ((x.src.extract (i+2) (i+2+k)).size+1) 0 aK).2 else ((i:Int),i,(gc (x.src.extract (i+2) (i+2+k)) ((x.src.extract (i+2) (i+2+k)).size+1) 0 aK).2):=by
        rw[<-er,go];show(bif (gc (x.src.extract (i+2) (i+2+(0+(k:Int).toNat))) (x.src.size+1) 0 aK).1 then eG x.src f' (i+(0+(k:Int).toNat)+4) _ else _)=_;rw[jk,cB]
       refine⟨ap,ap,aJ,ap,aJ,aJ,⟨af,af,af⟩,an7,rfl,⟨⟨x.b,x.src,i,aK,x.oa,x.on,x.oc⟩,x.src.extract (i+2) (i+2+k)⟩,by rw[ei,e2],rfl,by dsimp only;rw[jU];omega,Gl.rest (j:=1) aM hr,fun _ _=>?_⟩;dsimp only;generalize gc (x.src.extract (i+2) (i+2+k)) ((x.src.extract (i+2) (i+2+k)).size+1) 0 aK=rr at*;obtain⟨ok,ln⟩:=rr;dsimp only at Rr⊢;refine aG (fun lK=>⟨ap,fin ?_⟩) (fun lK=>⟨ap,aJ,aJ,ap,⟨i+k+4,f',ln,0⟩,⟨bd,bd,h3.trans ?_⟩,⟨rfl,ao⟩,aD.pick [0,1] rfl (by dsimp only;rw[show((i+k+4:Nat):Int)=(i:Int)+((k:Int)+4) by omega];rfl),bd⟩)
       ·have:ok=false:=by simpa using lK
        rw[Rr,this];rfl
       ·have:ok=true:=by simpa using lK
        rw[Rr,this];rfl
     ·rw[rE,aU]at go;exact fin go
   all_goals
    have Sa:x6 c=true:=ao_ (by have:=beq_iff_eq.1 e;omega);rw[Sa,bf]at go;exact⟨ap,aJ,ap,⟨i+n,f',aK,0⟩,⟨f1,bd,h3.trans go⟩,⟨rfl,ao⟩,aD.pick [0,1] rfl (by dsimp only;rw[Int.natCast_add];rfl),bd⟩
  all_goals
   have hn:kX c=true:=BY (by have:=beq_iff_eq.1 e;omega);rw[hn,bf]at go;exact⟨ap,ap,aJ,ap,⟨i+n,f',true,0⟩,⟨f1,bd,h3.trans go⟩,⟨rfl,ao⟩,aD.pick [0,1] rfl (by dsimp only;rw[Int.natCast_add];rfl),bd⟩
 ·intro _ fu;have fu:eo x.src (i:Int).toNat=none:=fu;rw[cB]at fu;exact⟨ap,fin (by rw[eG,bG (show i<x.src.size by omega),bf,fu])⟩
theorem afP:aC 35 rv:=fo 204 Tryz.func35 (fun _ _=>[(2,8,aX qA),(11,1,aX Av),(11,2,aX pL),(13,8,aX qA),(18,1,aX Av),(18,2,aX pL),(19,10,aX K8),(20,21,bq wH),(21,3,aT 0),(22,3,aT 0),(22,9,.w [.z00 0])]) [(1,3,aT 0),(1,7,aT 0),(2,3,aT 0),(2,7,aT 0),(7,3,.w [LH.z00 (0:Nat)]),(10,3,aT 0),(12,3,aT 0),(19,3,aT 0),(5,3,aT 0),(8,3,aT 0),(10,8,.w [LH.z00 (0:Nat)]),(12,7,aT 0),(19,7,aT 0),(8,8,.w [LH.z00 (0:Nat)]),(13,3,aT 0),(20,7,aT 0),(13,7,aT 0),(20,11,aT 0),(17,3,aT 0),(15,3,aT 0),(20,16,aT 0),(17,8,.w [LH.z00 (0:Nat)])] afO aY bz [] afR
end
section
open Go
def iR(b:Nat):Bool:=jq b||ce b
def Hb:aR:=zo iR
def Df(aa:List Value)(k0:py->Unit->Prop):=aC 55 uL/\true=true/\∃(z:py),aa=[a_ ↑z.c]/\([]:List ai)=[]/\z.c<256/\True/\∀(u0:Unit),True->k0 z u0
theorem akB(x:py)(F:ai)(hc:Hb.cond x)(hr:Hb.aQ x F):Df [a_ ↑x.c] (fun d c=>Br (jq d.c) (aq Hb x F jv [(0,F)]) (T0 [a_ ↑x.c] (fun b a=>aq Hb x F (az (ak (ce b.c))) [(0,F)]))):=by
 delta Df jv T0 a_ ak az;have mI:x.c<256:=hc;refine bV Sz x mI fun _ _=>aG (fun e=>⟨(),ao,mh (by unfold iR;simp[*]),aB [0]⟩) (fun e=>bV zr x mI fun _ _=>⟨(),ao,mh (by unfold iR;simp[*]),aB [0]⟩)
theorem akA:aC 57 Hb:=fo 9 Tryz.func57 (fun _ _=>[(1,1,aX uL),(1,4,aX ry)]) [] aY aY bz [] akB
theorem abL(s:ByteArray)(p:Nat->Bool):∀(f i:Nat),i<=s.size->i<=iW s p f i/\iW s p f i<=s.size:=by
 intro f
 induction f with
 |zero=>intro i h;exact⟨cr _,h⟩
 |succ f ih=>
  intro i h;rw[iW];grind
def Ff(bO:Nat)(p:Nat->Bool):aR where
 X:=cM
 args x:=[.pointer (some ⟨x.b,0,none⟩),.func (.func bO) #[] #[]]
 pre x:=[ag x.b (qC x) 68]
 cond x:=0<=x.i/\x.i<=x.src.size/\x.src.size<=1048576
 val x _:=az (aj (x.src.extract x.i.toNat (bL x.src p x.i.toNat)))
 post x _:=[ag x.b [aj x.src,ae (bL x.src p x.i.toNat:Nat),ak x.aK,au x.oa x.on x.oc] 68]
def WI(bO:Nat)(p:Nat->Bool)(x:cM)(F:ai):Nat->Option Inv:=fun
 |0=>some {X:=fk,P:=fun d=>x.i.toNat<=d.i/\d.i<=x.src.size/\x.src.size<d.i+d.f/\bL x.src p x.i.toNat=iW x.src p d.f d.i,mu:=fun d=>x.src.size-d.i,lv:=fun d=>[(0,.pointer (some ⟨x.b,0,none⟩)),(1,.func (.func bO) #[] #[]),(5,.int .i64 x.i)],st:=fun d=>[ag x.b [aj x.src,ae d.i,ak x.aK,au x.oa x.on x.oc] 68,F]}
 |_=>none
def WJ(p:Nat->Bool)(_x:cM)(_F:ai):List (Nat×Nat×OH):=[(2,21,.c (zo p) [] [])]
def Ax:aR:=Ff 57 iR
def Mp(x:cM)(a:fk):=x.i.toNat<=a.i/\a.i<=x.src.size/\x.src.size<a.i+a.f/\bL x.src iR x.i.toNat=iW x.src iR a.f a.i
def T_(x:cM):=ah (gP x)=ah (gP x)/\func (Fn.func 57) ⟨[]⟩ ⟨[]⟩=func (Fn.func 57) ⟨[]⟩ ⟨[]⟩/\ae x.i=ae x.i/\True
def tD(x:cM)(a:fk)(F:ai):=[(0,ag x.b [aj x.src,ae ↑a.i,ak x.aK,au x.oa x.on x.oc] 68),(1,F)]
def E8(e:fk)(x:cM):=0<=(e.i:Int)/\(e.i:Int)<(x.src.size:Int)
def EI(e:fk):=(-9223372036854775808:Int)<=(e.i:Int)+1/\(e.i:Int)+1<=(9223372036854775807:Int)
def EJ(x:cM)(e:fk)(F:ai):=[(0,ag x.b [aj x.src,ae ((e.i:Int)+1),ak x.aK,au x.oa x.on x.oc] 68),(1,F)]
def EE(x:cM)(e:fk):=0<=x.i/\x.i<=e.i/\(e.i:Int)<=(x.src.size:Int)
def EB(x:cM)(e:fk):=az (aj (x.src.extract x.i.toNat (e.i:Int).toNat))
def VX(x:cM)(e:fk)(F:ai):=true=true/\ax x.b 0/\ax x.b 1/\EE x e/\aq Ax x F (EB x e) (tD x e F)
theorem aoq(x:cM)(F:ai)(hc:Ax.cond x)(hr:Ax.aQ x F):ax x.b 1/\(∃(a:fk),Mp x a/\T_ x/\aD (Al x F) (tD x a F))/\aS fun(e:fk)_=>Mp x e->true=true/\ax x.b 1/\ax x.b 0/\aP ((e.i:Int)<(x.src.size:Int)) (ax x.b 0/\ax x.b 1/\E8 e x/\aC 57 (zo iR)/\true=true/\∃(c:py),[a_ (aE x.src (e.i:Int))]=[a_ ↑c.c]/\([]:List ai)=[]/\c.c<256/\True/\∀(b:Unit),True->Br (iR c.c) (ax x.b 1/\EI e/\ax x.b 1/\∃(a:fk),Mp x a/\T_ x/\aD (EJ x e F) (tD x a F)/\x.src.size-a.i<x.src.size-e.i) (VX x e F)) (VX x e F):=by
 delta Mp gP T_ qC Al tD E8 EI EJ EE EB VX ax ae a_ aj ak ah au ag aP az aS;obtain⟨h0,bS,hs⟩:=hc;refine⟨ap,⟨⟨x.i.toNat,x.src.size+1,false⟩,⟨cr _,by simp[*],by grind,rfl⟩,aV,aD.pick [0,1] rfl (by dsimp only;rw[Int.toNat_of_nonneg h0];rfl)⟩,?_⟩;rintro⟨i,f,_⟩ js ⟨h1,h2,h3,h4⟩;dsimp only at h1 h2 h3 h4⊢;obtain⟨f',rfl⟩:∃f',f=f'+1:=⟨f-1,af⟩;have fin:iW x.src iR (f'+1) i=i->aq Ax x F (returned (string (x.src.extract x.i.toNat (i:Int).toNat))) [(0,ai.cells x.b [string x.src,int i64 (i:Int),bool x.aK,slice x.oa x.on x.oc] 68),(1,F)]:=fun e=>
  ⟨(),ao,by show returned _=returned (.string (x.src.extract x.i.toNat (bL x.src iR x.i.toNat)));simp[*],aD.pick [0,1] rfl (by simp only[Ax,Ff,h4,e];rfl)⟩
 refine⟨rfl,ap,ap,bl (fun bP=>⟨ap,ap,⟨af,bP⟩,akA,rfl,⟨bt x.src i⟩,by rw[gX,cB],rfl,iM _ _,ao,fun _ _=>aG (fun e=>?_) (fun e=>?_)⟩) (fun jn=>⟨rfl,ap,ap,⟨h0,af,af⟩,fin (by rw[iW,bK (show ¬i<x.src.size by omega)];rfl)⟩)⟩
 ·have e:iR (bt x.src i)=true:=e;exact⟨ap,aJ,ap,⟨i+1,f',false⟩,⟨by grind,by grind,by grind,h4.trans (by rw[iW,bG (show i<x.src.size by omega),e];rfl)⟩,aV,aD.pick [0,1] rfl (by rfl),by grind⟩
 ·have e:iR (bt x.src i)=false:=e;exact⟨rfl,ap,ap,⟨h0,af,af⟩,fin (by rw[iW,bG (show i<x.src.size by omega),e];rfl)⟩
theorem aop:aC 56 Ax:=fo 50 Tryz.func56 (WJ iR) [(1,3,aT 0),(2,3,aT 0),(2,7,aT 0),(2,15,aT 0),(4,3,aT 0),(2,19,aT 0),(4,8,aT 0),(3,3,aT 0),(3,7,.w [LH.z00 (0:Nat)])] (WI 57 iR) aY bz [] aoq
def wK:aR:=Ff 58 ce
def Mk(x:cM)(a:fk):=x.i.toNat<=a.i/\a.i<=x.src.size/\x.src.size<a.i+a.f/\bL x.src ce x.i.toNat=iW x.src ce a.f a.i
def Ub(x:cM):=ah (gP x)=ah (gP x)/\func (Fn.func 58) ⟨[]⟩ ⟨[]⟩=func (Fn.func 58) ⟨[]⟩ ⟨[]⟩/\ae x.i=ae x.i/\True
def VW(x:cM)(e:fk)(F:ai):=true=true/\ax x.b 0/\ax x.b 1/\EE x e/\aq wK x F (EB x e) (tD x e F)
theorem aoo(x:cM)(F:ai)(hc:wK.cond x)(hr:wK.aQ x F):ax x.b 1/\(∃(a:fk),Mk x a/\Ub x/\aD (Al x F) (tD x a F))/\aS fun(e:fk)_=>Mk x e->true=true/\ax x.b 1/\ax x.b 0/\aP ((e.i:Int)<(x.src.size:Int)) (ax x.b 0/\ax x.b 1/\E8 e x/\aC 58 (zo ce)/\true=true/\∃(c:py),[a_ (aE x.src (e.i:Int))]=[a_ ↑c.c]/\([]:List ai)=[]/\c.c<256/\True/\∀(b:Unit),True->Br (ce c.c) (ax x.b 1/\EI e/\ax x.b 1/\∃(a:fk),Mk x a/\Ub x/\aD (EJ x e F) (tD x a F)/\x.src.size-a.i<x.src.size-e.i) (VW x e F)) (VW x e F):=by
 delta Mk gP Ub qC Al tD E8 EI EJ EE EB VW ax ae a_ aj ak ah au ag aP az aS;obtain⟨h0,bS,hs⟩:=hc;refine⟨ap,⟨⟨x.i.toNat,x.src.size+1,false⟩,⟨cr _,by simp[*],by grind,rfl⟩,aV,aD.pick [0,1] rfl (by dsimp only;rw[Int.toNat_of_nonneg h0];rfl)⟩,?_⟩;rintro⟨i,f,_⟩ js ⟨h1,h2,h3,h4⟩;dsimp only at h1 h2 h3 h4⊢;obtain⟨f',rfl⟩:∃f',f=f'+1:=⟨f-1,af⟩;have fin:iW x.src ce (f'+1) i=i->aq wK x F (returned (string (x.src.extract x.i.toNat (i:Int).toNat))) [(0,ai.cells x.b [string x.src,int i64 (i:Int),bool x.aK,slice x.oa x.on x.oc] 68),(1,F)]:=fun e=>
  ⟨(),ao,by show returned _=returned (.string (x.src.extract x.i.toNat (bL x.src ce x.i.toNat)));simp[*],aD.pick [0,1] rfl (by simp only[wK,Ff,h4,e];rfl)⟩
 refine⟨rfl,ap,ap,bl (fun bP=>⟨ap,ap,⟨af,bP⟩,zr,rfl,⟨bt x.src i⟩,by rw[gX,cB],rfl,iM _ _,ao,fun _ _=>aG (fun e=>?_) (fun e=>?_)⟩) (fun jn=>⟨rfl,ap,ap,⟨h0,af,af⟩,fin (by rw[iW,bK (show ¬i<x.src.size by omega)];rfl)⟩)⟩
 ·have e:ce (bt x.src i)=true:=e;exact⟨ap,aJ,ap,⟨i+1,f',false⟩,⟨by grind,by grind,by grind,h4.trans (by rw[iW,bG (show i<x.src.size by omega),e];rfl)⟩,aV,aD.pick [0,1] rfl (by rfl),by grind⟩
 ·have e:ce (bt x.src i)=false:=e;exact⟨rfl,ap,ap,⟨h0,af,af⟩,fin (by rw[iW,bG (show i<x.src.size by omega),e];rfl)⟩
theorem WH:aC 56 wK:=fo 50 Tryz.func56 (WJ ce) [(1,3,aT 0),(2,3,aT 0),(2,7,aT 0),(2,15,aT 0),(4,3,aT 0),(2,19,aT 0),(4,8,aT 0),(3,3,aT 0),(3,7,.w [LH.z00 (0:Nat)])] (WI 58 ce) aY bz [] aoo
def Ay:aR:=Ff 71 gz
def Ml(x:cM)(a:fk):=x.i.toNat<=a.i/\a.i<=x.src.size/\x.src.size<a.i+a.f/\bL x.src gz x.i.toNat=iW x.src gz a.f a.i
def Uc(x:cM):=ah (gP x)=ah (gP x)/\func (Fn.func 71) ⟨[]⟩ ⟨[]⟩=func (Fn.func 71) ⟨[]⟩ ⟨[]⟩/\ae x.i=ae x.i/\True
def VY(x:cM)(e:fk)(F:ai):=true=true/\ax x.b 0/\ax x.b 1/\EE x e/\aq Ay x F (EB x e) (tD x e F)
theorem aos(x:cM)(F:ai)(hc:Ay.cond x)(hr:Ay.aQ x F):ax x.b 1/\(∃(a:fk),Ml x a/\Uc x/\aD (Al x F) (tD x a F))/\aS fun(e:fk)_=>Ml x e->true=true/\ax x.b 1/\ax x.b 0/\aP ((e.i:Int)<(x.src.size:Int)) (ax x.b 0/\ax x.b 1/\E8 e x/\aC 71 (zo gz)/\true=true/\∃(c:py),[a_ (aE x.src (e.i:Int))]=[a_ ↑c.c]/\([]:List ai)=[]/\c.c<256/\True/\∀(b:Unit),True->Br (gz c.c) (ax x.b 1/\EI e/\ax x.b 1/\∃(a:fk),Ml x a/\Uc x/\aD (EJ x e F) (tD x a F)/\x.src.size-a.i<x.src.size-e.i) (VY x e F)) (VY x e F):=by
 delta Ml gP Uc qC Al tD E8 EI EJ EE EB VY ax ae a_ aj ak ah au ag aP az aS;obtain⟨h0,bS,hs⟩:=hc;refine⟨ap,⟨⟨x.i.toNat,x.src.size+1,false⟩,⟨cr _,by simp[*],by grind,rfl⟩,aV,aD.pick [0,1] rfl (by dsimp only;rw[Int.toNat_of_nonneg h0];rfl)⟩,?_⟩;rintro⟨i,f,_⟩ js ⟨h1,h2,h3,h4⟩;dsimp only at h1 h2 h3 h4⊢;obtain⟨f',rfl⟩:∃f',f=f'+1:=⟨f-1,af⟩;have fin:iW x.src gz (f'+1) i=i->aq Ay x F (returned (string (x.src.extract x.i.toNat (i:Int).toNat))) [(0,ai.cells x.b [string x.src,int i64 (i:Int),bool x.aK,slice x.oa x.on x.oc] 68),(1,F)]:=fun e=>
  ⟨(),ao,by show returned _=returned (.string (x.src.extract x.i.toNat (bL x.src gz x.i.toNat)));simp[*],aD.pick [0,1] rfl (by simp only[Ay,Ff,h4,e];rfl)⟩
 refine⟨rfl,ap,ap,bl (fun bP=>⟨ap,ap,⟨af,bP⟩,abZ,rfl,⟨bt x.src i⟩,by rw[gX,cB],rfl,iM _ _,ao,fun _ _=>aG (fun e=>?_) (fun e=>?_)⟩) (fun jn=>⟨rfl,ap,ap,⟨h0,af,af⟩,fin (by rw[iW,bK (show ¬i<x.src.size by omega)];rfl)⟩)⟩
 ·have e:gz (bt x.src i)=true:=e;exact⟨ap,aJ,ap,⟨i+1,f',false⟩,⟨by grind,by grind,by grind,h4.trans (by rw[iW,bG (show i<x.src.size by omega),e];rfl)⟩,aV,aD.pick [0,1] rfl (by rfl),by grind⟩
 ·have e:gz (bt x.src i)=false:=e;exact⟨rfl,ap,ap,⟨h0,af,af⟩,fin (by rw[iW,bG (show i<x.src.size by omega),e];rfl)⟩
theorem aor:aC 56 Ay:=fo 50 Tryz.func56 (WJ gz) [(1,3,aT 0),(2,3,aT 0),(2,7,aT 0),(2,15,aT 0),(4,3,aT 0),(2,19,aT 0),(4,8,aT 0),(3,3,aT 0),(3,7,.w [LH.z00 (0:Nat)])] (WI 71 gz) aY bz [] aos
theorem AH(s:ByteArray):(!s.toList==(ByteArray.mk #[]).toList)=decide (s.size>0):=by
 have h:s.toList=s.data.toList:=ByteArray.toList_eq s;have h2:(ByteArray.mk #[]).toList=[]:=by simp[*]
 have h3:s.data.toList.length=s.size:=aM;grind
theorem arW(s:ByteArray):(ByteArray.mk #[32]++s++ByteArray.mk #[32]).data.toList=[32]++s.data.toList++[32]:=aM
theorem aqi:W9.size<=1048576:=by decide+kernel
structure QC where
 s:ByteArray
def AO:aR where
 X:=QC
 args x:=[aj x.s]
 cond x:=x.s.size<=1048570
 aQ _ F:=Gl F
 val x _:=az (ak (CZ x.s))
def tE:ByteArray:=ByteArray.mk #[]
def Pu(aa:List Value)(rr:ai)(k0:gV->Unit->Prop):=aC 70 Gq/\true=true/\∃(z:gV),aa=[aj z.a,aj z.b]/\([]:List ai)=[]/\z.a.size<=1048576/\Gl rr/\∀(u0:Unit),True->k0 z u0
theorem aqq(x:QC)(F:ai)(hc:AO.cond x)(hr:AO.aQ x F):Br (!x.s.toList==tE.toList) (Pu [aj x.s,aj ⟨#[32]⟩] (cX F) (fun d c=>Br (!Lib.contains d.a.data.toList d.b.data.toList) (1+x.s.size<=9223372036854775807/\((ByteArray.mk #[32])++x.s).size+1<=9223372036854775807/\Pu [aj {data:=(([32,98,114,101,97,107,32,99,97,115,101,32,99,97,116,99,104,32,99,108,97,115,115,32,99,111,110,115,116,32,99,111,110,116,105,110,117,101,32,100,101,98,117,103,103,101,114,32,100,101,102,97,117,108,116,32,100].append [101,108,101,116,101,32,100,111,32,101,108,115,101,32,101,110,117,109,32,101,120,112,111,114,116,32,101,120,116,101,110,100,115,32,102,97,108,115,101,32,102,105,110,97,108,108,121,32,102,111,114,32,102,117,110,99,116]).append ([105,111,110,32,105,102,32,105,109,112,111,114,116,32,105,110,32,105,110,115,116,97,110,99,101,111,102,32,108,101,116,32,110,101,119,32,110,117,108,108,32,114,101,116,117,114,110,32,115,117,112,101,114,32,115,119,105].append [116,99,104,32,116,104,105,115,32,116,104,114,111,119,32,116,114,117,101,32,116,114,121,32,116,121,112,101,111,102,32,118,97,114,32,118,111,105,100,32,119,104,105,108,101,32,119,105,116,104,32,121,105,101,108,100,32])).toArray},aj ((ByteArray.mk #[32])++x.s++(ByteArray.mk #[32]))] (cX F) (fun b a=>aq AO x F (az (ak (Lib.contains b.a.data.toList b.b.data.toList))) [(0,F)])) (aq AO x F c7 [(0,F)]))) (aq AO x F c7 [(0,F)]):=by
 delta tE Pu cX dq c7 aH aj ak az;have hs:x.s.size<=1048570:=hc;have sz:(ByteArray.mk #[32]++x.s).size=1+x.s.size:=mH;refine aG (fun h1=>bp Yx ⟨x.s,⟨#[32]⟩⟩ (by grind) (Gl.rest (j:=0) aM hr) fun _ _=>aG (fun h2=>⟨af,af,Yx,rfl,⟨W9,⟨#[32]⟩++x.s++⟨#[32]⟩⟩,rfl,rfl,aqi,Gl.rest (j:=0) aM hr,fun _ _=>⟨(),ao,mh ?_,aB [0]⟩⟩) (fun h2=>⟨(),ao,mh ?_,aB [0]⟩)) (fun h1=>⟨(),ao,mh ?_,aB [0]⟩)
 ·have h2:(!Lib.contains x.s.data.toList [32])=true:=h2;rw[AH]at h1;unfold CZ;simp[*]
 ·have h2:(!Lib.contains x.s.data.toList [32])=false:=h2;unfold CZ;simp[*]
 ·rw[AH]at h1;unfold CZ;simp[*]
theorem aqn:aC 59 AO:=fo 16 Tryz.func59 (fun _ _=>[(1,4,aX Gq),(1,11,aX Gq)]) [] aY aY bz [] aqq
theorem acG(n:Int):0<=u8.wrap n/\u8.wrap n<256:=by
 simp only[IntKind.wrap,IntKind.bits,IntKind.signed,nh,Bool.false_eq_true,if_false];omega
theorem aoY{b:Nat}(h:b<256)(hx:gz b=true):((bif ce b then 48 else 97)<=(bif ce b then b else b|||32))/\(bif ce b then b-48 else (b|||32)-97+10)<16:=by
 have:∀d:Fin 256,gz d.val=true->((bif ce d.val then 48 else 97)<=(bif ce d.val then d.val else d.val|||32))/\(bif ce d.val then d.val-48 else (d.val|||32)-97+10)<16:=by decide
 exact this ⟨b,h⟩ hx
structure p_ where
 l:cM
 n:Nat
structure sy where
 k:Nat
 i:Nat
 u:Nat
def zE(s:ByteArray)(n i:Nat):ByteArray:=match (fF s n i 0).2 with|some u=>cQ [u/256%256,u%256]|none=>⟨#[]⟩
def wz(x:p_):Option Addr:=some ⟨x.l.b,0,none⟩
def HY(x:p_):List Value:=[aj x.l.src,ae x.l.i,ak x.l.aK,au x.l.oa x.l.on x.l.oc]
def vF:aR where
 X:=p_
 args x:=[ah (wz x),ae x.n]
 pre x:=[ag x.l.b (HY x) 68]
 cond x:=0<=x.l.i/\x.l.i<=x.l.src.size/\x.l.src.size<=1048576/\x.n<=4
 val x _:=.returned (.tuple #[.string (zE x.l.src x.n x.l.i.toNat),.bool (fF x.l.src x.n x.l.i.toNat 0).2.isSome])
 post x _:=[ag x.l.b [aj x.l.src,ae ((fF x.l.src x.n x.l.i.toNat 0).1:Nat),ak x.l.aK,au x.l.oa x.l.on x.l.oc] 68]
def agL(x:p_)(F:ai):Nat->Option Inv:=fun
 |0=>some {X:=sy,P:=fun d=>d.k<=x.n/\d.i<=x.l.src.size/\d.u<16^d.k/\fF x.l.src x.n x.l.i.toNat 0=fF x.l.src (x.n-d.k) d.i d.u,mu:=fun d=>x.n-d.k,lv:=fun d=>[(0,ah (wz x)),(6,ae d.u),(9,ae x.n),(10,ae d.k)],st:=fun d=>[ag x.l.b [aj x.l.src,ae d.i,ak x.l.aK,au x.l.oa x.l.on x.l.oc] 68,F]}
 |_=>none
def Mf(z:sy)(e0:p_):=z.k<=e0.n/\z.i<=e0.l.src.size/\z.u<Nat.pow 16 z.k/\fF e0.l.src e0.n e0.l.i.toNat 0=fF e0.l.src (e0.n-z.k) z.i z.u
def Tl(e0:p_)(z:sy):List Value:=[aj e0.l.src,ae ↑z.i,ak e0.l.aK,au e0.l.oa e0.l.on e0.l.oc]
def Ig(e0:p_)(z:sy)(e1:ai):=[(0,ag e0.l.b (Tl e0 z) 68),(1,e1)]
def qf(aa:List Value)(rr:ai)(k0:cM->Unit->Prop):=aC 54 o7/\true=true/\∃(z:cM),aa=[ah (gP z)]/\([]:List ai)=[]/\(0<=z.i/\z.src.size<=1048576)/\q_ z rr/\∀(u0:Unit),True->k0 z u0
def uX(g:cM):List Value:=[a_ (↑(bt g.src g.i.toNat):Int)]
def tq:=az (tuple ⟨[aj ⟨#[]⟩,ak false]⟩)
def U9(i:sy):=(-9223372036854775808:Int)<=(i.u:Int)*16/\(i.u:Int)*16<=(9223372036854775807:Int)
def Ve(i:sy):=(-9223372036854775808:Int)<=(i.i:Int)+1/\(i.i:Int)+1<=(9223372036854775807:Int)
def Vj(i:sy):=(-9223372036854775808:Int)<=(i.k:Int)+1/\(i.k:Int)+1<=(9223372036854775807:Int)
def PN(e0:p_)(e1:ai)(v0 v1:Value)(ss:St)(mm:Nat):=∃(z:sy),Mf z e0/\(ah (wz e0)=ah (wz e0)/\v0=ae ↑z.u/\ae ↑e0.n=ae ↑e0.n/\v1=ae ↑z.k/\True)/\aD ss (Ig e0 z e1)/\e0.n-z.k<mm
def Vv(x:p_)(i:sy)(F:ai):=[(0,ag x.l.b [aj x.l.src,ae ((i.i:Int)+1),ak x.l.aK,au x.l.oa x.l.on x.l.oc] 68),(1,F)]
def Uf(x:p_)(i:sy)(F:ai)(c:Nat):=[(0,ag x.l.b (Tl x i) 68),(1,F),(14050,ag c [a_ ((i.u:Int).fdiv ((2:Int)^min (Int.toNat (8:Int)) i64.bits)),a_ (u8.wrap (i.u:Int))] 5)]
theorem agN(x:p_)(F:ai)(hc:vF.cond x)(hr:vF.aQ x F):(∃(a:sy),Mf a x/\(ah (wz x)=ah (wz x)/\ae 0=ae ↑a.u/\ae ↑x.n=ae ↑x.n/\ae 0=ae ↑a.k/\True)/\aD [(0,ag x.l.b (HY x) 68),(1,F)] (Ig x a F))/\aS fun(i:sy)_=>Mf i x->aP ((i.k:Int)<(x.n:Int)) (qf [ah (wz x)] (aH (Ig x i F) []) (fun g f=>aC 71 AF/\true=true/\∃(e:py),(uX g)=[a_ ↑e.c]/\([]:List ai)=[]/\e.c<256/\True/\∀(d:Unit),True->Br (!gz e.c) (aq vF x F tq (Ig x i F)) (bT (u8.wrap ((↑(bt g.src g.i.toNat):Int)-48))/\T0 (uX g) (fun c b=>Br (!ce c.c) (bT (u8.wrap (u8.wrap (↑(BitVec.ofInt u8.bits (↑(bt g.src g.i.toNat):Int)|||BitVec.ofInt u8.bits (32:Int)).toNat:Int)-97))/\((-9223372036854775808:Int)<=u8.wrap (u8.wrap (↑(BitVec.ofInt u8.bits (↑(bt g.src g.i.toNat):Int)|||BitVec.ofInt u8.bits (32:Int)).toNat:Int)-97)+10/\u8.wrap (u8.wrap (↑(BitVec.ofInt u8.bits (↑(bt g.src g.i.toNat):Int)|||BitVec.ofInt u8.bits (32:Int)).toNat:Int)-97)+10<=(9223372036854775807:Int))/\U9 i/\bT ((i.u:Int)*16+(u8.wrap (u8.wrap (↑(BitVec.ofInt u8.bits (↑(bt g.src g.i.toNat):Int)|||BitVec.ofInt u8.bits (32:Int)).toNat:Int)-97)+10))/\ax x.l.b 1/\Ve i/\ax x.l.b 1/\Vj i/\PN x F (ae ((i.u:Int)*16+(u8.wrap (u8.wrap (↑(BitVec.ofInt u8.bits (↑(bt g.src g.i.toNat):Int)|||BitVec.ofInt u8.bits (32:Int)).toNat:Int)-97)+10))) (ae ((i.k:Int)+1)) (Vv x i F) (x.n-i.k)) (U9 i/\bT ((i.u:Int)*16+u8.wrap ((↑(bt g.src g.i.toNat):Int)-48))/\ax x.l.b 1/\Ve i/\ax x.l.b 1/\Vj i/\PN x F (ae ((i.u:Int)*16+u8.wrap ((↑(bt g.src g.i.toNat):Int)-48))) (ae ((i.k:Int)+1)) (Vv x i F) (x.n-i.k)))))) ((0<=(i.u:Int).fdiv ((2:Int)^min (Int.toNat (8:Int)) i64.bits)/\(i.u:Int).fdiv ((2:Int)^min (Int.toNat (8:Int)) i64.bits)<=255)/\∀(c:Nat),T8 (a8 Tryz.f90 13 6) [au (bJ c) 2 2] (aH (Uf x i F c) []) (fun b a=>aq vF x F (az (tuple ⟨[aj (cQ b.l),ak true]⟩)) (Uf x i F c))):=by
 delta Mf wz HY Tl Ig gP qf uX tq T0 U9 Ve Vj PN Vv T8 bJ Uf aH ax bT ae a_ aj ak ah au ag aP az aS;obtain⟨h0,bS,hs,hn⟩:=hc;refine⟨⟨⟨0,x.l.i.toNat,0⟩,⟨dC _,by simp[*],Nat.one_pos,rfl⟩,aV,aD.pick [0,1] rfl (by dsimp only;rw[Int.toNat_of_nonneg h0];rfl)⟩,?_⟩;rintro⟨k,i,u⟩ js ⟨h1,h2,h3,h4⟩;dsimp only at h1 h2 h3 h4⊢;have hu:u<65536:=Nat.lt_of_lt_of_le h3 (show 16^k<=16^4 from oV af af);refine bl (fun bP=>?_) (fun jn=>?_)
 ·refine bp wi ⟨x.l.b,x.l.src,i,x.l.aK,x.l.oa,x.l.on,x.l.oc⟩ ⟨by simp[*],hs⟩ ⟨aO.rest (j:=0) aM (aO.cells rfl),aO.rest (j:=0) aM (aO.cells rfl)⟩ fun _ _=>⟨abZ,rfl,⟨bt x.l.src i⟩,by rfl,rfl,iM _ _,ao,fun _ _=>?_⟩;dsimp only;rw[cB];have hb:=iM x.l.src i;obtain⟨m,hm⟩:∃m,x.n-k=m+1:=⟨x.n-k-1,af⟩;refine aG (fun hx=>?_) (fun hx=>?_)
  ·have hx:gz (bt x.l.src i)=false:=by grind
   have e:fF x.l.src x.n x.l.i.toNat 0=(i,none):=by
    rw[h4,hm,fF,hx,n6];rfl
   exact⟨(),ao,by show returned _=returned (.tuple #[.string (zE x.l.src x.n x.l.i.toNat),.bool _]);unfold zE;grind,aD.pick [0,1] rfl (by simp only[vF,e];rfl)⟩
  ·have hx:gz (bt x.l.src i)=true:=by grind
   have hi:i<x.l.src.size:=by
    rcases Nat.lt_or_ge i x.l.src.size with h|h
    ·exact h
    ·rw[DB h]at hx;cases hx
   have step:fF x.l.src (x.n-k) i u=fF x.l.src (x.n-(k+1)) (i+1) (u*16+(bif ce (bt x.l.src i) then bt x.l.src i-48 else (bt x.l.src i|||32)-97+10)):=by
    rw[hm,fF,bG hi,hx,show x.n-(k+1)=m by omega];rfl
   rw[B0 hb];have hd:=aoY hb hx;have Li:∀d:Nat,d<16->(bif ce (bt x.l.src i) then bt x.l.src i-48 else (bt x.l.src i|||32)-97+10)=d->u*16+d<Nat.pow 16 (k+1)/\fF x.l.src x.n x.l.i.toNat 0=fF x.l.src (x.n-(k+1)) (i+1) (u*16+d):=fun d hd e=>by
    refine⟨?_,?_⟩
    ·have:Nat.pow 16 (k+1)=Nat.pow 16 k*16:=Nat.pow_succ ..;omega
    grind
   refine⟨⟨by have:=acG ((bt x.l.src i:Int)-48);omega,by have:=acG ((bt x.l.src i:Int)-48);omega⟩,zr,rfl,⟨bt x.l.src i⟩,rfl,rfl,hb,ao,fun _ _=>aG (fun hg=>?_) (fun hg=>?_)⟩
   ·have hg:ce (bt x.l.src i)=false:=by grind
    simp only[hg,aU]at Li hd;have hl:=hd.1;have ew:u8.wrap (((bt x.l.src i|||32:Nat):Int)-97)=(((bt x.l.src i|||32)-97:Nat):Int):=by
     rw[show(((bt x.l.src i|||32:Nat):Int)-97)=(((bt x.l.src i|||32)-97:Nat):Int) by omega,IW];omega
    rw[ew];obtain⟨n1,n2⟩:=Li _ hd.2 rfl;exact⟨aJ,aJ,aJ,aJ,ap,aJ,ap,aJ,⟨k+1,i+1,u*16+((bt x.l.src i|||32)-97+10)⟩,⟨by grind,by grind,n1,n2⟩,⟨rfl,by rfl,rfl,rfl,ao⟩,aD.pick [0,1] rfl (by rfl),by grind⟩
   ·have hg:ce (bt x.l.src i)=true:=by grind
    simp only[hg,bf]at Li hd;have hl:=hd.1;have ew:u8.wrap ((bt x.l.src i:Int)-48)=((bt x.l.src i-48:Nat):Int):=by
     rw[show((bt x.l.src i:Int)-48)=((bt x.l.src i-48:Nat):Int) by omega,IW];omega
    rw[ew];obtain⟨n1,n2⟩:=Li _ hd.2 rfl;exact⟨aJ,aJ,ap,aJ,ap,aJ,⟨k+1,i+1,u*16+(bt x.l.src i-48)⟩,⟨by grind,by grind,n1,n2⟩,⟨rfl,by rfl,rfl,rfl,ao⟩,aD.pick [0,1] rfl (by rfl),by grind⟩
 ·have hk:x.n-k=0:=by omega
  have e:fF x.l.src x.n x.l.i.toNat 0=(i,some u):=by rw[h4,hk,fF]
  rw[abY,IW];refine⟨aJ,fun b=>bp (JZ rfl rfl rfl rfl) ⟨some ⟨b,0,none⟩,2,2,[u/256,u%256]⟩ (.gg b 0 2 rfl) (?_) fun _ _=>⟨(),ao,?_,aD.pick [0,1] rfl (by simp only[vF,e];rfl)⟩⟩
  ·intro ad h;cases h;exact da.rest (j:=14050) aM (da.cells (fun j u hj=>by rw[jk];exact hj))
  ·show returned _=returned (.tuple #[.string (zE x.l.src x.n x.l.i.toNat),.bool _]);unfold zE;grind
theorem YF:aC 90 vF:=fo 47 Tryz.func90 (fun _ _=>[(4,1,aX o7),(5,1,aX AF),(8,1,aX ry),(13,4,aW),(13,5,.n 14050),(13,6,.o Bi [] [])]) [(11,3,aT 0),(11,7,.w [LH.z00 (0:Nat)])] agL aY bz [] agN
end
end Go.Proofs.YtdkchodgklpomaaGreatDoor
