/- Part of the proof that ParseParens answers true at every input. -/
import Derived.Test.YtdkchodgklpomaaGreatDoorPPam
set_option linter.all false
namespace Go.Proofs.YtdkchodgklpomaaGreatDoor
set_option maxRecDepth 100000
open Go.Value (int slice string bool pointer agg tuple func float iface nilIface)
open Go.IntKind (i64 u8 u64 i32 u32 u16 i8 i16)
open Go.FloatKind (f64)
open Go.Ending (returned panicked)
section
open Go Go.RowKit
def U5:List (String×DataW Unit):=Rows.parseShapeRow.laid
noncomputable def nC(g:Nat):TypeId:=((Tryz.prog.globals[g]?).map (·.type)).getD 0
variable{g:Nat}{t:TypeId}
theorem me(h:((Tryz.prog.globals[g]?).map (·.type)).isSome=true):(Tryz.prog.globals[g]?).map (·.type)=some (nC g):=by
 unfold nC;cases e:(Tryz.prog.globals[g]?).map (·.type)with
 |none=>rw[e]at h;cases h
 |some t=>rfl
set_option maxRecDepth 100000
theorem acM:ji Tryz.prog 2 (nC 2) Rows.laid_pennant_eslex_marks=some (eV.map string):=bl
theorem acK:ji Tryz.prog 2 (nC 0) Rows.laid_pennant_esparse_assigns=some (pd.map string):=bl
theorem acL:ji Tryz.prog 2 (nC 5) Rows.laid_unicode_utf8_first=some ((List.range 256).map fun c=>int .u8 (Lib.firstT c)):=bl
theorem Ui:ji Tryz.prog 3 (nC 6) Rows.laid_unicode_utf8_acceptRanges=some ((List.range 32).map fun i=>int .u8 (bif i%2==0 then Lib.accLo (i/2) else Lib.accHi (i/2))):=bl
theorem Nj:ji Tryz.prog 2 (nC 11) Rows.laid_internal_strconv_float64info=some [.int .u64 52,.int .u64 11,.int .i64 (-1023)]:=bl
theorem acN:ji Tryz.prog 2 (nC 10) Rows.laid_internal_strconv_optimize=some [.bool true]:=bl
theorem acP:ji Tryz.prog 2 (nC 17) Rows.laid_internal_strconv_uint64pow10=some Od:=bl
theorem acO:ji Tryz.prog 3 (nC 15) Rows.laid_internal_strconv_pow10Tab=some ((List.range 1392).map fun i=>int .u64 (tH i)):=bl
def Ux:List (DataW Unit):=G4.map fun b=>.lit (.float .f64 b)
def Wd:List (DataW Unit):=HO.map fun z=>.lit (.int .i64 (z:Nat))
def NK:List (DataW Unit):=Pinned.cheatRows.map fun x=>.agg [.lit (.int .i64 x.1),.lit (.string x.2)]
theorem abY:(Rows.laid_internal_strconv_float64pow10:DataW Unit)= .slice Ux []:=bl
theorem ab0:(Rows.laid_internal_strconv_powtab:DataW Unit)= .slice Wd []:=bl
theorem abZ:(Rows.laid_internal_strconv_leftcheats:DataW Unit)= .slice NK []:=rfl
theorem Kb{α:Type}{f:Nat->α}{n i:Nat}(h:i<n):((List.range n).map f)[i]?=some (f i):=by
 rw[fP,List.getElem?_range h];rfl
theorem Xp(u:TypeId)(e:Tryz.prog.typeName? 3 u=some "*errors.errorString"):u=164:=
 typeName_ptr_named (nm:= "errors.errorString") bl bl (by decide) u e
section
variable{W:World}(h:laidMet Tryz.prog U5 W)
include h
theorem akU:f1 (gc W):=by
 have b:=qg h 17 (n:= "unicode/utf8.first") (d:=Rows.laid_unicode_utf8_first) rfl;have a:=qg h 9 (n:= "unicode/utf8.acceptRanges") (d:=Rows.laid_unicode_utf8_acceptRanges) rfl;refine⟨fun c e=>b.look bl (me bl) 2 acL c (Kb e),fun i hi=>a.look bl (me bl) 3 Ui (2*i) ?_,fun i hi=>a.look bl (me bl) 3 Ui (2*i+1) ?_⟩
 ·rw[Kb ae,show(2*i%2==0)=true by rw[beq_iff_eq];omega,show 2*i/2=i by omega];rfl
 ·rw[Kb ae,show((2*i+1)%2==0)=false by rw[dU];omega,show(2*i+1)/2=i by omega];rfl
theorem akQ:∀i m,eV[i]?=some m->aP (gc W) ⟨2,i,none⟩ (.string m):=fun i m b=>by
 have a:=qg h 12 (n:= "pennant/eslex.marks") (d:=Rows.laid_pennant_eslex_marks) rfl;exact a.look bl (me bl) 2 acM i (by rw[fP,b];rfl)
theorem akK:∀i m,pd[i]?=some m->aP (gc W) ⟨0,i,none⟩ (.string m):=fun i m b=>by
 have a:=qg h 14 (n:= "pennant/esparse.assigns") (d:=Rows.laid_pennant_esparse_assigns) rfl;exact a.look bl (me bl) 2 acK i (by rw[fP,b];rfl)
theorem akS:xX (gc W) 17 Od:=by
 have a:=qg h 8 (n:= "internal/strconv.uint64pow10") (d:=Rows.laid_internal_strconv_uint64pow10) rfl;obtain⟨t,fr,e⟩:=a.flat bl (me bl) 2 acP;exact⟨fun I g o c b=>⟨t,fr,c _ _ ((show a_.le (hp W) I from b) _ _ e)⟩⟩
theorem Xq:∀i,i<1392->aP (gc W) ⟨15,i,none⟩ (.int .u64 (tH i)):=fun i hi=>by
 have a:=qg h 16 (n:= "internal/strconv.pow10Tab") (d:=Rows.laid_internal_strconv_pow10Tab) rfl;exact a.look bl (me bl) 3 acO i (Kb hi)
theorem akN:aP (gc W) ⟨11,0,none⟩ (.int .u64 52)/\aP (gc W) ⟨11,1,none⟩ (.int .u64 11)/\aP (gc W) ⟨11,2,none⟩ (.int .i64 (-1023)):=by
 have a:=qg h 3 (n:= "internal/strconv.float64info") (d:=Rows.laid_internal_strconv_float64info) rfl;exact⟨a.look bl (me bl) 2 Nj 0 rfl,a.look bl (me bl) 2 Nj 1 rfl,a.look bl (me bl) 2 Nj 2 rfl⟩
theorem akR:aP (gc W) ⟨10,0,none⟩ (.bool true):=by
 have a:=qg h 4 (n:= "internal/strconv.optimize") (d:=Rows.laid_internal_strconv_optimize) rfl;exact a.look bl (me bl) 2 acN 0 rfl
theorem akM:∃b o c,aP (gc W) ⟨14,0,none⟩ (.slice (some ⟨b,o,none⟩) 23 c)/\∀i,i<23->aP (gc W) ⟨b,o+i,none⟩ (.float .f64 (md i)):=by
 have a:=qg h 6 (n:= "internal/strconv.float64pow10") (d:=Rows.laid_internal_strconv_float64pow10) rfl;rw[abY]at a;obtain⟨b,o,c,e1,f⟩:=a.R4 bl (me bl) (e:=32) bl 0 ⟨.lit (.float .f64 4607182418800017408),.float .f64 4607182418800017408,[],rfl,bl⟩;refine⟨b,o,c,e1,fun i hi=>?_⟩;have hl:G4[i]?=some (md i):=by
  unfold md;rw[fg];have:i<G4.length:=hi;rw[gy this];rfl
 have:=f i (.lit (.float .f64 (md i))) [.float .f64 (md i)] (by unfold Ux;rw[fP,hl];rfl) (by unfold ji rZ;rw[show Tryz.prog.underlying 32=some (.float .f64) by kernel_rfl];rfl) 0 _ rfl;rw[show Tryz.prog.cellsOf 32=1 by kernel_rfl,Nat.mul_one,Nat.add_zero]at this;exact this
theorem akT:∃b o c,aP (gc W) ⟨13,0,none⟩ (.slice (some ⟨b,o,none⟩) 9 c)/\∀i,i<9->aP (gc W) ⟨b,o+i,none⟩ (.int .i64 (pw i)):=by
 have a:=qg h 5 (n:= "internal/strconv.powtab") (d:=Rows.laid_internal_strconv_powtab) rfl;rw[ab0]at a;obtain⟨b,o,c,e1,f⟩:=a.R4 bl (me bl) (e:=3) bl 0 ⟨.lit (.int .i64 1),.int .i64 1,[],rfl,bl⟩;refine⟨b,o,c,e1,fun i hi=>?_⟩;have hl:HO[i]?=some (pw i):=by
  unfold pw;rw[fg];have:i<HO.length:=hi;rw[gy this];rfl
 have:=f i (.lit (.int .i64 (pw i))) [.int .i64 (pw i)] (by unfold Wd;rw[fP,hl];rfl) (by unfold ji rZ;rw[show Tryz.prog.underlying 3=some (.int .i64) by kernel_rfl];rfl) 0 _ rfl;rw[show Tryz.prog.cellsOf 3=1 by kernel_rfl,Nat.mul_one,Nat.add_zero]at this;exact this
theorem akO:∃b o c,aP (gc W) ⟨16,0,none⟩ (.slice (some ⟨b,o,none⟩) 61 c)/\∀i,i<61->aP (gc W) ⟨b,o+i*2,none⟩ (.int .i64 (jn i).1)/\aP (gc W) ⟨b,o+i*2+1,none⟩ (.string (jn i).2):=by
 have g:=qg h 15 (n:= "internal/strconv.leftcheats") (d:=Rows.laid_internal_strconv_leftcheats) rfl;rw[abZ]at g;obtain⟨b,o,c,e1,k⟩:=g.R4 bl (me bl) (e:=210) bl 1 ⟨.agg [.lit (.int .i64 0),.lit (.string [])],.int .i64 0,[.string ⟨#[]⟩],rfl,bl⟩;have hn:NK.length=61:=bl;rw[hn]at e1;refine⟨b,o,c,e1,fun i hi=>?_⟩;have f:i<Pinned.cheatRows.length:=by
  have:Pinned.cheatRows.length=61:=bl;omega
 have hl:Pinned.cheatRows[i]?=some ((jn i).1,(jn i).2.data.toList):=by
  unfold jn;rw[fg,gy f];simp
 have l:ji Tryz.prog 1 210 (.agg [.lit (.int .i64 (jn i).1),.lit (.string (jn i).2.data.toList)])=some [.int .i64 (jn i).1,.string ⟨(jn i).2.data.toList.toArray⟩]:=by
  kernel_rfl
 have a:=k i _ _ (by unfold NK;rw[fP,hl];rfl) l;rw[show Tryz.prog.cellsOf 210=2 by kernel_rfl]at a;have j:=a 1 _ rfl;rw[<-Nat.add_assoc,Array.toArray_toList]at j;exact⟨a 0 _ rfl,j⟩
def Vo:List (List (DataW Unit)):=nH.map fun r=>r.map fun m=>.lit (.string m.data.toList)
theorem akP:∀n row,nH[n]?=some row->∃b o c,aP (gc W) ⟨3,n,none⟩ (.slice (some ⟨b,o,none⟩) row.length c)/\c4 (gc W) ⟨b,o,none⟩ (row.map string):=by
 have f:=qg h 13 (n:= "pennant/esparse.levels") (d:=Rows.laid_pennant_esparse_levels) rfl;rw[show(Rows.laid_pennant_esparse_levels:DataW Unit)= .agg (Vo.map fun ds=>.slice ds []) by kernel_rfl]at f;intro n row hn;have i:∀m:ByteArray,rZ Tryz.prog 9 (.lit (.string m.data.toList))=some (.string m):=fun m=>by
  unfold rZ;rw[show Tryz.prog.underlying 9=some .string by kernel_rfl]
 have a:∃m r,row=m::r:=by
  have:(nH.all fun r=> !r.isEmpty)=true:=by decide
  have:=List.all_eq_true.1 this row (ou hn);cases row with
  |nil=>cases this
  |cons m r=>exact⟨m,r,rfl⟩
 obtain⟨m0,q,rfl⟩:=a;obtain⟨b,o,c,e1,l⟩:=f.ai6 (t:=nC 3) (k:=10) (e:=56) (s:=9) bl (me bl) bl bl bl bl n ((m0::q).map fun m=>.lit (.string m.data.toList)) (by unfold Vo;rw[fP,hn];rfl) ⟨_,_,rfl,i m0⟩;rw[List.length_map]at e1;refine⟨b,o,c,e1,fun j u g=>?_⟩;rw[fP,Option.map_eq_some_iff]at g;obtain⟨m,p,rfl⟩:=g;rw[pa];exact l j _ _ (by rw[fP,p];rfl) (i m)
theorem akL:se (gc W):=by
 have a:=h.tail.tail.tail.tail.tail.tail.tail.tail.tail.tail;have hi:Tryz.prog.underlying (nC 8)=some (.interface (match Tryz.prog.underlying (nC 8)with|some (.interface ms)=>ms|_=>#[])):=bl;have c:Tryz.prog.underlying (nC 7)=some (.interface (match Tryz.prog.underlying (nC 7)with|some (.interface ms)=>ms|_=>#[])):=bl;have b:Tryz.prog.underlying 166=some (.struct #[((match Tryz.prog.underlying 166 with|some (.struct fs)=>fs|_=>#[])[0]'(j7 bl))]):=bl;have hs:Tryz.prog.underlying 9=some .string:=bl;obtain⟨a1,s1,d,-⟩:=laid_sentinel a bl (me bl) hi Xp (te:=166) bl b (ts:=9) bl bl hs bl bl;obtain⟨a2,s2,e,-⟩:=laid_sentinel a.tail bl (me bl) c Xp (te:=166) bl b (ts:=9) bl bl hs bl bl;exact⟨⟨_,a2,wb (World.var?_cell bl e 0)⟩,⟨_,a1,wb (World.var?_cell bl d 0)⟩⟩
end
section
variable{W:World}(h:W.ShapedOpen Tryz.prog)
include h
theorem WD(d:g<Tryz.prog.globals.size)(i:((((begin Tryz.prog (fun _ _=>0) default).world.heap[g]?).bind Obj.row?).map (·.2))=some t):pU (gc W) g t:=by
 obtain⟨⟨z,t'⟩,a,e⟩:=Option.map_eq_some_iff.1 i;have e:t'=t:=e;subst e;obtain⟨cs,f,-,-⟩:=h.1 g z t' d a;exact⟨fun I m o c b=>⟨cs,c _ _ ((show a_.le (hp W) I from b) _ _ f)⟩⟩
theorem ajl{k:IntKind}{zero:Array Value}(n:g<Tryz.prog.globals.size)(i:((begin Tryz.prog (fun _ _=>0) default).world.heap[g]?).bind Obj.row?=some (zero,t))(v:zero.size=1)
  (j:Tryz.prog.buildable t=true) (l:Tryz.prog.cellTypes Tryz.prog.depth t=some [t]) (r:Tryz.prog.underlying t=some (.int k)):∃m,aP (gc W) ⟨g,0,none⟩ (.int k m):=by
 obtain⟨cs,o,hs,q⟩:=h.1 g zero t n i;obtain⟨ts,d,_,c⟩:=q j;rw[l]at d;cases d;have f:0<cs.size:=ae;obtain⟨u,e,a⟩:=c 0 cs[0] (by simp[f]);have:u=t:=by simpa using e.symm
 subst this;have b:W.cell? ⟨g,0,none⟩=some cs[0]:=by simp[World.cell?,o,f]
 unfold Cell.ok at a;rw[r]at a
 suffices hx:∃m,cs[0]= .int k m by
  obtain⟨m,p⟩:=hx;exact⟨m,wb (by rw[b,p])⟩
 cases s:cs[0] <;> rw[s]at a <;> simp at a
 rename_i k' m
 exact⟨m,by first|rw[a]|rw[a.1]⟩
end
noncomputable def M5:bQ where
 nv:=kD (HI (vO tH jn))
 tv:=m7 tH
 rd F:=gF tH jn F/\se F/\kN tH F
 mono h hs:=⟨h.1.sub hs,h.2.1.sub hs,h.2.2.sub hs⟩
 rest a h:=⟨h.1.sub (oP _ a rfl),h.2.1.sub (oP _ a rfl),h.2.2.sub (oP _ a rfl)⟩
theorem adv{W:World}(h:laidMet Tryz.prog U5 W)(hs:W.ShapedOpen Tryz.prog):eH M5 (gc W)/\iA (gc W):=by
 have mx:∃m,aP (gc W) ⟨4,0,none⟩ (.int .i64 m):=ajl hs (t:=3) (zero:=#[.int .i64 0]) (j7 bl) bl rfl bl bl bl;obtain⟨i0,i1,i2⟩:=akN h;exact⟨⟨⟨akU h,mx,akQ h⟩,⟨Xq h,i0,i1,i2,akR h,WD hs (j7 bl) bl,WD hs (j7 bl) bl,akM h,akT h,akO h⟩,akL h,⟨akS h,mx⟩,Xq h⟩,akK h,akP h⟩
end
section
open Go
def rF(t:ByteArray):List ByteArray->Nat->Int
 | [],_=> -1
 |m::r,k=>bif bC t m then (k:Int) else rF t r (k+1)
theorem UY(t:ByteArray):∀(l:List ByteArray)(k:Nat),decide (rF t l k>=0)=cI l t
 | [],k=>by simp[rF,cI]
 |m::r,k=>by
  have a:=UY t r (k+1);unfold cI at a⊢;rw[rF,List.any_cons];cases bC t m with
  |true=>simp
  |false=>rw[aM,Bool.false_or];exact a
structure qV where
 b:Nat
 o:Nat
 c:Nat
 row:List ByteArray
 t:ByteArray
def pA(x:qV):Option Addr:=some ⟨x.b,x.o,none⟩
def yA:aQ where
 X:=qV
 args x:=[au (pA x) x.row.length x.c,ai x.t]
 cond x:=x.row.length<=1000
 aO x F:=c4 F ⟨x.b,x.o,none⟩ (x.row.map string)
 val x _:=ax (ad (rF x.t x.row 0))
structure CO where
 k:Nat
def aey(x:qV)(F:ah):Nat->Option Inv:=fun
 |0=>some {X:=CO,P:=fun d=>d.k<=x.row.length/\rF x.t x.row 0=rF x.t (x.row.drop d.k) d.k,mu:=fun d=>x.row.length-d.k,lv:=fun d=>[(0,au (pA x) x.row.length x.c),(1,ai x.t),(7,ad x.row.length),(8,ad d.k)],st:=fun _=>[F]}
 |_=>none
def IZ(a:CO)(x:qV):=a.k<=x.row.length/\rF x.t x.row 0=rF x.t (List.drop a.k x.row) a.k
theorem aeF(x:qV)(F:ah)(j:yA.cond x)(g:yA.aO x F):(∃(a:CO),IZ a x/\(au (pA x) x.row.length x.c=au (pA x) x.row.length x.c/\ai x.t=ai x.t/\ad ↑x.row.length=ad ↑x.row.length/\ad 0=ad ↑a.k/\True)/\aE [(0,F)] [(0,F)])/\aT fun(e:CO)_=>IZ e x->aS ((e.k:Int)<(x.row.length:Int)) (iS (ba Tryz.f40 4 3) [au (pA x) x.row.length x.c,ad ↑e.k] (fun c=>T2 F ⟨c.b,c.o+c.n.toNat*1,none⟩ (fun b=>Br (x.t.toList==b.toList) (ar yA x F (ax (ad ↑e.k)) [(0,F)]) (((-9223372036854775808:Int)<=(e.k:Int)+1/\(e.k:Int)+1<=(9223372036854775807:Int))/\∃(a:CO),IZ a x/\(au (pA x) x.row.length x.c=au (pA x) x.row.length x.c/\ai x.t=ai x.t/\ad ↑x.row.length=ad ↑x.row.length/\ad ((e.k:Int)+1)=ad ↑a.k/\True)/\aE [(0,F)] [(0,F)]/\x.row.length-a.k<x.row.length-e.k)))) (ar yA x F rT [(0,F)]):=by
 delta IZ pA iS T2 rT ad ai au aS ax aT;obtain⟨b,o,c,row,t⟩:=x;have hn:row.length<=1000:=j;replace g:c4 F ⟨b,o,none⟩ (row.map string):=g;dsimp only;refine⟨⟨⟨0⟩,⟨df _,rfl⟩,aV,az [0]⟩,?_⟩;rintro⟨k⟩ q ⟨i,d⟩;dsimp only at i d⊢;refine bo (fun n=>?_) (fun l=>⟨(),ao,wZ ?_,az [0]⟩)
 ·obtain⟨m,h⟩:∃m,row[k]?=some m:=⟨_,gy ae⟩;have hd:row.drop k=m::row.drop (k+1):=by
   obtain⟨hk,rfl⟩:=kw.1 h;exact List.drop_eq_getElem_cons hk
  rw[hd,rF]at d;have p:aP F ⟨b,o+(k:Int).toNat*1,none⟩ (.string m):=by
   have:=g k (.string m) (by rw[fP,h];rfl);rw[pa]at this;rw[show(k:Int).toNat*1=k by omega];exact this
  refine⟨h9 1 rfl rfl rfl rfl,⟨b,o,row.length,c,k⟩,rfl,bg,m,p,aG (fun f=>⟨(),ao,wZ ?_,az [0]⟩) (fun f=>⟨aK,⟨k+1⟩,⟨bg,?_⟩,aV,az [0],bg⟩)⟩
  ·rw[fS]at f;rw[f]at d;exact d.symm
  ·rw[fS]at f;rw[f]at d;exact d
 ·rw[d,List.drop_eq_nil_of_le ae];rfl
theorem aeE:aC 40 yA:=fo 19 Tryz.func40 (fun _ _=>[(4,3,.qo (gb 1)),(4,4,.q [.ex 0 .str])]) [] aey aY bA [] aeF
def yi:aQ where
 X:=qV
 args x:=[au (pA x) x.row.length x.c,ai x.t]
 cond x:=x.row.length<=1000
 aO x F:=c4 F ⟨x.b,x.o,none⟩ (x.row.map string)
 val x _:=ax (aj (cI x.row x.t))
def B1(x:qV):List Value:=[au (pA x) x.row.length x.c,ai x.t]
theorem abT(x:qV)(F:ah)(c:yi.cond x)(d:yi.aO x F):aC 40 yA/\true=true/\∃(b:qV),(B1 x)=(B1 b)/\([]:List ah)=[]/\b.row.length<=1000/\c4 (cP F) ⟨b.b,b.o,none⟩ (List.map ai b.row)/\∀(a:Unit),True->ar yi x F (ax (aj (decide (rF b.t b.row 0>=0)))) [(0,F)]:=by
 delta pA B1 cP aH ai aj au ax;exact br aeE x c (c4.rest (j:=0) aL d) fun _ _=>⟨(),ao,kG (UY _ _ _),az [0]⟩
theorem TI:aC 25 yi:=fo 9 Tryz.func25 (fun _ _=>[(1,2,aW yA)]) [] aY aY bA [] abT
def ap.args:ap->List Value
 | .level n=>[.int .i64 n]
 | .func k=>[.int .i64 k]
 | .block b=>[.bool b]
 | .di p=>[.int .i64 p]
 | .dy p=>[.int .i64 p]
 | .choose p=>[.int .i64 p]
 | .simple d=>[.agg ⟨kA d⟩]
 | .ci b=>[.bool b]
 |_=>[]
def ap.bJ:ap->Option FuncId
 | .aZ=>some 14
 | .cond=>some 23
 | .level _=>some 37
 | .unary=>some 64
 | .dD=>some 77
 | .suffix=>some 92
 | .dk=>some 106
 | .func _=>some 43
 | .block _=>some 30
 | .paren=>some 44
 | .vars=>some 41
 | .loop=>some 45
 | .di _=>some 46
 | .dy _=>some 47
 | .choose _=>some 48
 | .simple _=>some 42
 | .ci _=>some 17
 |_=>none
structure PG(x:cf)(s:al)(os:List Int):Prop where
 i:s.i<=x.L.length
 fo:bR x.fin s os
 nd:s.nodes.length<=2*s.i
 f:0<=s.bw/\s.bw<=s.i
 l:0<=s.loops/\s.loops<=s.i
 b:0<=s.bn/\s.bn<=s.i
theorem PG.step{x:cf}{s:al}{os:List Int}(h:PG x s os)(hi:s.i<x.L.length):PG x s.ay os:=by
 obtain⟨b,a,c,d,e,f⟩:=h;exact⟨hi,a.same rfl,by dsimp only[al.ay];omega,by dsimp only[al.ay];omega,by dsimp only[al.ay];omega,by dsimp only[al.ay];omega⟩
theorem PG.is{x:cf}{s:al}{os:List Int}(h:PG x s os){t:ByteArray}(hi:bc x.L s 0 t=true):PG x s.ay os:=h.step (iZ hi)
theorem PG.jy{x:cf}{s:al}{os:List Int}(h:PG x s os){k:Int}(hk:k∈os):0<=k/\k<s.nodes.length:=h.fo.jy hk
theorem PG.cast{x:cf}{s:al}{os a:List Int}(h:PG x s os)(e:os=a):PG x s a:=e▸h
theorem PG.node{x:cf}{s:al}{os:List Int}{n:cj}(h:PG x s (os++n.aJ))(hp:0<=n.pos/\n.pos<=x.fin)(hn:s.nodes.length+1<=2*s.i):PG x (s.add n) (os++[(s.nodes.length:Int)]):=by
 obtain⟨a,b,f,c,d,e⟩:=h;exact⟨a,b.node hp,by dsimp only[al.add];rw[eS];exact hn,c,d,e⟩
abbrev bs(K:bQ)(x:cf)(n:Nat)(tag:ap)(s:al):PR (List Int):=P x.L x.fin K.tv bx n tag s
structure gM(K:bQ)(x:cf):Prop extends PaK K x where
 d6:fY x.L x.fin
theorem PG.run{K:bQ}{x:cf}(c:gM K x){f:Nat}{tag:ap}{s t:al}{os ks:List Int}(h:PG x s os)(hp:tag.cB x.fin)(hn:tag.ct x.L s)(hi:tag.d6=[])(hs:tag.sk=0)(e:bs K x f tag s= .ok ks t):PG x t (os++ks)/\(tag.yH=false->∃k,ks=[k])/\s.i<=t.i/\t.nodes.length+2*s.i+tag.sl<=s.nodes.length+2*t.i/\t.bw=s.bw/\t.loops=s.loops/\t.bn=s.bn/\s.nodes.length<=t.nodes.length:=by
 obtain⟨a,b,p,q,r,u⟩:=h;have k:Kp x.L tag s t:=SE (fin:=x.fin) (aI:=K.tv) (wide:=bx) f tag s a hn ks t e;have w:=K4 (aI:=K.tv) (wide:=bx) c.d6 f tag s os hp (by rw[hi,dv];exact b);unfold WP at w;rw[show P x.L x.fin K.tv bx f tag s= .ok ks t from e]at w;obtain⟨w1,o⟩:=w;obtain⟨d,g,i,j,l,m,n⟩:=k;rw[hs]at j;exact⟨⟨g,w1,ae,ae,ae,ae⟩,o,d,ae,l,m,n,i⟩
theorem PG.cap{x:cf}{s:al}{os:List Int}(h:PG x s os)(hl:x.L.length<=1048576):s.nodes.length<=2097152:=by
 have:=h.nd;have:=h.i;omega
variable{rr:ah}{pp:List ah}{aa:List Value}{u:al}{q:Prop}
theorem PG.pK{K:bQ}{x:cf}(c:gM K x){s:al}{os:List Int}(h:PG x s os)(e:dP x.L x.fin s= .ok () u):PG x u os/\s.i<=u.i/\u.nodes.length=s.nodes.length/\u.bw=s.bw/\u.loops=s.loops/\u.bn=s.bn:=by
 have k:Dk x.L 0 0 s u\/Dk x.L 1 0 s u:=CS (Q:=fun _ t=>Dk x.L 0 0 s t\/Dk x.L 1 0 s t) (L:=x.L) (fin:=x.fin) h.i (fun t a=>a) () u e;have w:u.nodes=s.nodes:=by
  have w:=Dm (fin:=x.fin) (Q:=fun _ t=>t.nodes=s.nodes) (s:=s) c.d6 (fun t a=>a);unfold WP at w;rw[e]at w;exact w
 obtain⟨d,b,f,g,i,j⟩:=h;have hn:u.nodes.length=s.nodes.length:=by rw[w]
 exact⟨⟨ae,b.same w,ae,ae,ae,ae⟩,ae,hn,ae,ae,ae⟩
theorem PG.key{K:bQ}{x:cf}(b:gM K x){s:al}{os:List Int}{k:Int}(h:PG x s os)(e:dW x.L x.fin K.tv bx s= .ok k u):PG x u (os++[k])/\u.i=s.i+1/\u.nodes.length=s.nodes.length+1/\u.bw=s.bw/\u.loops=s.loops/\u.bn=s.bn:=by
 have q:Dk x.L 1 1 s u:=KP.key (Q:=fun _ t=>Dk x.L 1 1 s t) (L:=x.L) (fin:=x.fin) (aI:=K.tv) (wide:=bx) (fun _ t a=>a) k u e;have w:bR x.fin u (os++[k]):=by
  have w:=WP.key (fin:=x.fin) (aI:=K.tv) (wide:=bx) (Q:=fun k t=>bR x.fin t (os++[k])) (s:=s) b.d6 h.fo (fun k t a=>a);unfold WP at w;rw[e]at w;exact w
 obtain⟨c,d,f,g,i,j⟩:=h;exact⟨⟨ae,w,ae,ae,ae,ae⟩,ae,ae,ae,ae,ae⟩
theorem PG.hp{K:bQ}{x:cf}(a:gM K x)(s:al):0<=(aB x.L x.fin s).pos/\(aB x.L x.fin s).pos<=x.fin:=jJ a.d6 s
theorem PG.pos{x:cf}{s:al}{os:List Int}(h:PG x s os){k:Int}(hk:k∈os):0<=du s k/\du s k<=x.fin:=h.fo.rL hk
def ap.cN(s:al):ap->Prop
 | .loop=>s.loops<s.i/\s.bn<s.i
 |_=>True
structure nj where
 K:bQ
 x:cf
 s:al
 os:List Int
 tag:ap
def cx(n:Nat)(bJ:FuncId):aQ where
 X:=nj
 Y:=(Int×al) ⊕ (Int×Int)
 args x:=ag (some ⟨x.x.b,0,none⟩)::x.tag.args
 pre x:=[ak x.x x.s]
 cond x:=gM x.K x.x/\PG x.x x.s x.os/\x.tag.bJ=some bJ/\x.tag.cB x.x.fin/\x.tag.ct x.x.L x.s/\x.tag.cN x.s/\bs x.K x.x n x.tag x.s≠.out
 aO x F:=cA x.K x.x F
 bZ x y:=match y with
  | .inl a=>bs x.K x.x n x.tag x.s= .ok [a.1] a.2
  | .inr a=>∃t,bs x.K x.x n x.tag x.s= .stop a.1 a.2 t
 val x y:=match y with
  | .inl a=>.returned (.int .i64 a.1)
  | .inr a=>.panicked [⟨iz a.1 a.2,false,false⟩]
 post x y:=match y with
  | .inl a=>[ak x.x a.2]
  | .inr _=>[]
 eM _ _ _ hs h:=cA.sub hs h
 sum:=some (hU (Int×al) (Int×Int))
structure bk(T:Type)where
 K:bQ
 x:cf
 s:al
 os:List Int
 n:Nat
 t:T
def bm{T:Type}(b:T->ap):aQ where
 X:=bk T
 Y:=(Int×al) ⊕ (Int×Int)
 args x:=ag (some ⟨x.x.b,0,none⟩)::(b x.t).args
 pre x:=[ak x.x x.s]
 cond x:=(∀bJ,aC bJ (cx x.n bJ))/\gM x.K x.x/\PG x.x x.s x.os/\(b x.t).cB x.x.fin/\(b x.t).ct x.x.L x.s/\(b x.t).cN x.s/\bs x.K x.x (x.n+1) (b x.t) x.s≠.out
 aO x F:=cA x.K x.x F
 bZ x y:=match y with
  | .inl a=>bs x.K x.x (x.n+1) (b x.t) x.s= .ok [a.1] a.2
  | .inr a=>∃t,bs x.K x.x (x.n+1) (b x.t) x.s= .stop a.1 a.2 t
 val x y:=match y with
  | .inl a=>.returned (.int .i64 a.1)
  | .inr a=>.panicked [⟨iz a.1 a.2,false,false⟩]
 post x y:=match y with
  | .inl a=>[ak x.x a.2]
  | .inr _=>[]
 eM _ _ _ hs h:=cA.sub hs h
 sum:=some (hU (Int×al) (Int×Int))
theorem mi{T:Type}{a:T->ap}{bJ:FuncId}{n:Nat}(h:aC bJ (bm a))(k:∀tag:ap,tag.bJ=some bJ->∃t,a t=tag)(o:∀bJ,aC bJ (cx n bJ)):aC bJ (cx (n+1) bJ):=h.AR fun q F I w j l hs=>by
 obtain⟨K,x,s,os,tag⟩:=q;obtain⟨b,c,d,e,f,g,i⟩:=j;obtain⟨t,rfl⟩:=k tag d;exact⟨⟨K,x,s,os,n,t⟩,I,a_.le_refl I,⟨o,b,c,e,f,g,i⟩,l,rfl,hs,fun y m=>⟨y,m,rfl,aE.refl _⟩⟩
structure Rn{α:Type}(m:PR (List Int))(kk:Int->al->PR α)(r:PR α):Prop where
 o:m≠.out
 p:∀a e u,m= .stop a e u->r= .stop a e u
 k:∀c t,m= .ok [c] t->kk c t=r
section
variable{α:Type}{m:PM (List Int)}{s:al}{r:PR α}
theorem zF{k:List Int->PM α}(hk:(m>>=k) s=r)(a:r≠.out):Rn (m s) (fun c=>k [c]) r:=
 ⟨Kr (by rw[hk];exact a),fun _ _ _ q=>hk.symm.trans (Cw q),fun _ _ q=>(Cv q).symm.trans hk⟩
theorem ft{k:Int->PM α}(hk:(one m>>=k) s=r)(a:r≠.out):Rn (m s) k r:=
 ⟨R6 (by rw[hk];exact a),fun _ _ _ q=>hk.symm.trans (WW q),fun _ _ q=>(WV q).symm.trans hk⟩
end
theorem ty{m r:PR (List Int)}(hk:m=r)(a:r≠.out):Rn m (fun c t=>.ok [c] t) r:=
 ⟨fun e=>a (hk.symm.trans e),fun _ _ _ q=>hk.symm.trans q,fun _ _ q=>q.symm.trans hk⟩
theorem ca{f:FuncId}{n:Nat}{K:bQ}{x:cf}{tag:ap}{s:al}{os:List Int}{α:Type}{kk:Int->al->PR α}{r:PR α}{e:nj->Int×al->Prop}{i:nj->Int×Int->Prop}
  (G:PG x s os) (hk:Rn (bs K x n tag s) kk r)
  (b:∀c t,kk c t=r->PG x t (os++[c])->s.i<=t.i->t.nodes.length+2*s.i+tag.sl<=s.nodes.length+2*t.i->t.bw=s.bw->t.loops=s.loops->t.bn=s.bn->s.nodes.length<=t.nodes.length->e ⟨K,x,s,os,tag⟩ (c,t))
  (cB:tag.cB x.fin:=by exact ao) (ct:tag.ct x.L s:=by exact ao) (cN:tag.cN s:=by exact ao)
  (l:cA K x rr:=by first|exact cA.sub (bP 1) (by assumption)|exact cA.sub (bP 0) (by assumption)|exact cA.sub (bP 2) (by assumption)|exact cA.sub (bP 3) (by assumption)|exact cA.sub (bP 4) (by assumption))
  (stop:∀a:Int×Int,(∃u,r= .stop a.1 a.2 u)->i ⟨K,x,s,os,tag⟩ a:=by
   intro a h;obtain⟨u,q⟩:=h
   try intro _
   first|exact⟨.inr a,⟨u,Eq.trans (by assumption) q⟩,rfl,az [1]⟩|exact⟨.inr a,⟨u,Eq.trans (by assumption) q⟩,rfl,az [0]⟩|exact⟨.inr a,⟨u,Eq.trans (by assumption) q⟩,rfl,az [2]⟩|exact⟨.inr a,⟨u,Eq.trans (by assumption) q⟩,rfl,az [3]⟩|exact⟨.inr a,⟨u,Eq.trans (by assumption) q⟩,rfl,az [4]⟩)
  (o:∀bJ,aC bJ (cx n bJ):=by assumption) (d:gM K x:=by assumption)
  (k:tag.bJ=some f:=by exact rfl) (j:aa= .pointer (some ⟨x.b,0,none⟩)::tag.args:=by exact rfl) (hp:pp=[ak x s]:=by exact rfl) (hi:tag.d6=[]:=by exact rfl) (hs:tag.sk=0:=by exact rfl):
  aC f (cx n f)/\true=true/\∃z:nj,aa= .pointer (some ⟨z.x.b,0,none⟩)::z.tag.args/\pp=[ak z.x z.s]/\
   (gM z.K z.x/\PG z.x z.s z.os/\z.tag.bJ=some f/\z.tag.cB z.x.fin/\z.tag.ct z.x.L z.s/\z.tag.cN z.s/\bs z.K z.x n z.tag z.s≠.out)/\cA z.K z.x rr/\
   (∀a:Int×al,bs z.K z.x n z.tag z.s= .ok [a.1] a.2->e z a)/\(∀a:Int×Int,(∃t,bs z.K z.x n z.tag z.s= .stop a.1 a.2 t)->i z a):=by
 refine⟨o _,rfl,⟨K,x,s,os,tag⟩,j,hp,⟨d,G,k,cB,ct,cN,hk.o⟩,l,fun a q=>?_,fun a⟨u,q⟩=>stop a ⟨u,hk.p _ _ _ q⟩⟩;obtain⟨c,t⟩:=a;obtain⟨g,-,i1,i2,i3,i4,i5,m⟩:=PG.run d G cB ct hi hs q;exact b c t (hk.k _ _ q) g i1 i2 i3 i4 i5 m
theorem ma{α:Type}{x:cf}{T:ByteArray}{s:al}{os:List Int}{k:Unit->PM α}{r:PR α}{c d:iB->Unit->Prop}
  (G:PG x s os) (hk:(cr x.L x.fin T>>=k) s=r) (b:k () s.ay=r->PG x s.ay os->c ⟨x,s,T⟩ ()) (hl:x.L.length<=1048576:=by assumption)
  (f:fI x rr:=by first|exact fI.sub (bP 1) (cA.ls (by assumption))|exact fI.sub (bP 0) (cA.ls (by assumption))|exact fI.sub (bP 2) (cA.ls (by assumption))|exact fI.sub (bP 3) (cA.ls (by assumption))|exact fI.sub (bP 4) (cA.ls (by assumption)))
  (stop:r= .stop (aB x.L x.fin s).pos 60 s->d ⟨x,s,T⟩ ():=by
   intro q
   first|exact⟨.inr (_,_),⟨_,Eq.trans (by assumption) q⟩,rfl,az [1]⟩|exact⟨.inr (_,_),⟨_,Eq.trans (by assumption) q⟩,rfl,az [0]⟩|exact⟨.inr (_,_),⟨_,Eq.trans (by assumption) q⟩,rfl,az [2]⟩|exact⟨.inr (_,_),⟨_,Eq.trans (by assumption) q⟩,rfl,az [3]⟩|exact⟨.inr (_,_),⟨_,Eq.trans (by assumption) q⟩,rfl,az [4]⟩)
  (e:aa=[.pointer (some ⟨x.b,0,none⟩),.string T]:=by exact rfl) (hp:pp=[ak x s]:=by exact rfl):
  aC 39 ia/\true=true/\∃z:iB,aa=[.pointer (some ⟨z.x.b,0,none⟩),.string z.t]/\pp=[ak z.x z.s]/\(z.x.L.length<=1048576/\z.s.i<=z.x.L.length)/\fI z.x rr/\
   (∀a:Unit,bc z.x.L z.s 0 z.t=true->c z a)/\(∀a:Unit,bc z.x.L z.s 0 z.t=false->d z a):=
 ⟨af8,rfl,⟨x,s,T⟩,e,hp,⟨hl,G.i⟩,f,fun _ q=>b ((tF q).symm.trans hk) (G.is q),fun _ q=>stop (hk.symm.trans (Fp q))⟩
theorem ew{p:Prop}(h:q)(g:q->p:=by exact fun h=>⟨.inl (_,_),h,rfl,az [0,1]⟩):p:=g h
theorem GS{p:Prop}(h:q)(g:q->p:=by exact fun h=>⟨.inl (_,_,true),.inl ⟨rfl,h⟩,rfl,az [0,1]⟩):p:=g h
end
section
open Go
theorem aaH{F:ah}(h:iA F):c4 F ⟨0,0,none⟩ (pd.map string):=fun j u a=>by
 rw[fP]at a;cases b:pd[j]? with
 |none=>rw[b]at a;cases a
 |some m=>
  rw[b]at a;cases a;rw[pa,gT];exact h.Tj j m b
theorem mP{i:Nat}(h:i<=1048576): -9223372036854775808<=(i:Int)+1/\(i:Int)+1<=9223372036854775807:=ae
theorem ae2(b:Nat)(ks:List Int):bz 3 1 (bB ks) ⟨some ⟨b,0,none⟩,ks.length,ks.length,.cells b (bB ks) 3⟩:=by
 have:=bz.fO (e:=3) (k:=1) (cs:=bB ks) b ks.length ks.length [] (by rw[A_,Nat.mul_one]) (by rw[dv,A_,Nat.mul_one]) (bT _);rw[dv]at this;exact this
def kB(b:Nat)(ks:List Int):Row:=⟨some ⟨b,0,none⟩,ks.length,ks.length,.cells b (bB ks) 3⟩
theorem jo(b:Nat)(ks:List Int):bz 3 1 (bB ks) (kB b ks):=ae2 b ks
def acz(x:bk Unit)(a:ah):List (Nat×Nat×OH):=[(1,1,bu (cx x.n 23)),(2,1,aW iq),(2,2,.n 3020),(2,3,.w (eJ 3020)),(3,1,aR 3020),(3,4,.qo (sx 6)),(3,6,aR 3020),(3,7,aW yi),(5,2,bu yY),(6,3,c9),(6,7,dV fE),(7,1,bu (cx x.n 14)),(8,2,aR 3020),(8,5,.n 9050),(8,8,bu sy),(8,10,.c fD [0,9050] [0])]
def acy:Nat->List Nat:=fun r=>if r=8 then [0,1,2,3,4,6,7,8,5,9,10,11] else []
def cq(a:Nat)(b:FuncId)(aa:List Value)(pp:List ah)(rr:ah)(e:nj->Int×al->Prop)(f:nj->Int×Int->Prop):=aC b (cx a b)/\true=true/\∃(z:nj),aa=ag (some ⟨z.x.b,0,none⟩)::z.tag.args/\pp=[ak z.x z.s]/\(gM z.K z.x/\PG z.x z.s z.os/\z.tag.bJ=some b/\ap.cB z.x.fin z.tag/\ap.ct z.x.L z.s z.tag/\ap.cN z.s z.tag/\bs z.K z.x a z.tag z.s≠PR.out)/\cA z.K z.x rr/\(∀(c:Int×al),bs z.K z.x a z.tag z.s=PR.ok [c.fst] c.snd->e z c)/\∀(d:Int×Int),(∃(w0:al),bs z.K z.x a z.tag z.s=PR.stop d.fst d.snd w0)->f z d
def b_(x:bk Unit):Option Addr:=some ⟨x.x.b,0,none⟩
def eg(x:bk Unit):List Value:=[ag (b_ x)]
def tm(x:bk Unit)(F:ah):=aH [(0,ak x.x x.s),(1,F)] [0]
def lf(u:nj)(t:Int×al)(F:ah):=[(0,ak u.x t.snd),(1,F)]
def wQ(s:cW):=(cn s.L s.fin s.i).kind !=5
def jv(t:Int×al):=ax (ad t.fst)
def wz(u:nj)(t:Int×al)(F:ah)(q:Nat)(s:cW):=[(0,ak u.x t.snd),(1,F),(3020,af q (q0 s) 53)]
def Gh(aa:List Value)(rr:ah)(a:qV->Unit->Prop):=aC 25 yi/\true=true/\∃(z:qV),aa=(B1 z)/\([]:List ah)=[]/\z.row.length<=1000/\c4 rr ⟨z.b,z.o,none⟩ (List.map ai z.row)/\∀(b:Unit),True->a z b
def C9(aa:List Value)(pp:List ah)(a:Ak->Unit->Prop)(b:Ak->Unit->Prop):=aC 26 yY/\true=true/\∃(z:Ak),aa=[ag (some ⟨z.x.b,0,none⟩),ad z.k,aj z.ir]/\pp=[ak z.x z.s]/\(0<=z.k/\z.k<z.s.nodes.length)/\True/\(∀(c:Unit),j_ z.s z.k z.ir=false->a z c)/\∀(d:Unit),j_ z.s z.k z.ir=true->b z d
def mY(x:bk Unit)(k:Int):List Value:=[ag (some ⟨x.x.b,1,none⟩),ad (k+1)]
def ri(aa:List Value)(pp:List ah)(a:FH->Unit->Prop):=aC 27 sy/\true=true/\∃(z:FH),aa=[ag (some ⟨z.x.b,0,none⟩),ad z.k]/\pp=[ak z.x z.s]/\(0<=z.k/\z.k<z.s.nodes.length)/\True/\∀(b:Unit),True->a z b
def cd(b:Int×Int):=dL b.fst b.snd
def hT(F:ah):=[(0,bd),(1,F)]
theorem acB(x:bk Unit)(F:ah)(V:aQ.cond (bm (fun(_:Unit)=>ap.aZ)) x)(z:aQ.aO (bm (fun(_:Unit)=>ap.aZ)) x F):cq x.n 23 (eg x) [ak x.x x.s] (tm x F) (fun u t=>e7 (eg x) (aH (lf u t F) []) (fun s r=>∀(q:Nat),cz q (true=true/\aw q 0/\Br (wQ s) (ar (bm fun(a:Unit)=>ap.aZ) x F (jv t) (wz u t F q s)) (dJ Tryz.prog (ba Tryz.f14 3 4) (sx 6)/\∃(p:vu),[ag (some ⟨0,0,none⟩)]=[ag (some p.a)]/\(p.a.off=0/\p.a.spot=none)/\aw q 1/\Gh [au (some p.a) 6 6,ai (cn s.L s.fin s.i).text] (aH (wz u t F q s) []) (fun o n=>Br (!cI o.row o.t) (ar (bm fun(a:Unit)=>ap.aZ) x F (jv t) (wz u t F q s)) (C9 [ag (b_ x),ad t.fst,aj true] [ak u.x t.snd] (fun m l=>T1 (ak m.x m.s) ⟨x.x.b,1,none⟩ (fun k=>dx k/\dK (ba Tryz.f14 6 7) (mY x k) [ak m.x m.s] (fun j i=>cq x.n 14 (eg x) [ak j.x j.t] (aH [(0,ak j.x j.t),(1,F),(3020,af q (q0 s) 53)] [0]) (fun h g=>true=true/\aw q 1/\ri [ag (b_ x),ad t.fst] [ak h.x g.snd] (fun f e=>∀(d:Nat),c7 [ag (b_ x),agg ⟨[ad 16,ai (cn s.L s.fin s.i).text,float f64 0,au (bI d) 2 2,ad (du f.s f.k)]⟩] [ak f.x f.s,af d [ad t.fst,ad g.fst] 3] (fun c b=>ar (bm fun(a:Unit)=>ap.aZ) x F (fq c) [(0,ak c.x (c.s.add c.n)),(1,F),(3020,af q (q0 s) 53),(9050,bd)]))) (fun h b=>ar (bm fun(a:Unit)=>ap.aZ) x F (cd b) [(0,bd),(1,F),(3020,af q (q0 s) 53)])))) (fun m b=>ar (bm fun(a:Unit)=>ap.aZ) x F (dL (du m.s m.k) 61) [(0,bd),(1,F),(3020,af q (q0 s) 53)]))))))) (fun u b=>ar (bm fun(a:Unit)=>ap.aZ) x F (cd b) (hT F)):=by
 delta cq b_ eg tm ib e7 lf wQ jv q0 wz pA B1 Gh C9 T1 dx lg lh dK mY ri kg kh c7 bI jQ fq cd hT dL aH ak aw cz ad ai aj ag au af bd ax;obtain⟨K,x,s,os,n,X⟩:=x;obtain⟨W,U,T,hp,G,E,y⟩:=V;replace z:cA K x F:=z;replace y:bs K x (n+1) .aZ s≠.out:=y;dsimp only at W U T hp G E⊢;obtain⟨r,e0⟩:∃r,bs K x (n+1) .aZ s=r:=⟨_,rfl⟩;rw[e0]at y;have hk:=e0;unfold bs at hk;rw[P]at hk;have hl:=U.len;refine ca T (ft hk y) (fun k t1 hk g1 H N C L A Q=>?_) (cB:=ao) (ct:=ao) (cN:=ao);dsimp only[ap.sl,al.ay,al.add]at H N C L A Q;rw[m6]at hk;refine br kz (x.p t1) hl (z.ls.da 0 1 aL aL rfl rfl) fun _ _ c=>?_
 repeat (refine⟨aq,?_⟩)
 refine⟨rfl,aq,aG (fun v=>?_) (fun v=>?_)⟩
 ·replace v:((aB x.L x.fin t1).kind !=5)=true:=v;rw[v,Bool.true_or,aU]at hk;exact ew (e0.trans hk.symm)
 replace v:((aB x.L x.fin t1).kind !=5)=false:=v;refine⟨GC rfl rfl rfl rfl rfl,⟨⟨0,0,none⟩⟩,rfl,aq,aq,TI,rfl,⟨0,0,6,pd,(aB x.L x.fin t1).text⟩,rfl,rfl,by show 6<=1000;omega,c4.rest (j:=1) aL (aaH z.gp),fun _ _=>aG (fun w=>?_) (fun w=>?_)⟩
 ·replace w:(!cI pd (aB x.L x.fin t1).text)=true:=w;rw[w,mc,aU]at hk;exact ew (e0.trans hk.symm)
 replace w:(!cI pd (aB x.L x.fin t1).text)=false:=w;rw[v,w,Bool.or_false,aM]at hk;have hi:t1.i<x.L.length:=ui (fin:=x.fin) (fun e=>by rw[e]at v;cases v);refine bO HJ ⟨x,t1,k,true⟩ (g1.jy aL) ⟨fun _ q=>?_,fun _ q=>⟨.inr (_,_),⟨_,e0.trans (hk.symm.trans (Ku q))⟩,rfl,az [1]⟩⟩;rw[Kv q]at hk;rw[kK]at hk;refine⟨_,ef fun _=>rfl,mP (i:=t1.i) (gR g1.i hl),gk rfl rfl rfl,rfl,⟨x,t1,t1.ay,1,_⟩,rfl,rfl,⟨fun _=>rfl,rfl,bg,rfl,rfl⟩,ao,fun _ _=>?_⟩;refine ca ((g1.step hi)) (ft hk y) (fun J t2 hk S I O D M B R=>?_) (cB:=ao) (ct:=ao) (cN:=ao);dsimp only[ap.sl,al.ay,al.add]at I O D M B R;rw[zL,iM]at hk;refine⟨rfl,aq,vP,rfl,⟨x,t2,k⟩,rfl,rfl,S.jy aL,ao,fun _ _ b=>?_⟩;refine bO e_ ⟨x,t2,⟨16,(aB x.L x.fin t1).text,0,[k,J],du t2 k⟩,kB b [k,J]⟩ ⟨by have:=S.cap hl;dsimp only[al.ay,al.add]at*;omega,jo b [k,J]⟩ fun _ _=>?_;exact ew (e0.trans hk.symm)
theorem acA:aC 14 (bm (fun(_:Unit)=>ap.aZ)):=fo 44 Tryz.func14 acz [] aY aY acy [] acB
def abv(x:bk Unit)(a:ah):List (Nat×Nat×OH):=[(1,1,bu (cx x.n 37)),(2,1,bu hZ),(4,1,bu (cx x.n 14)),(5,1,bu ia),(6,1,bu (cx x.n 14)),(7,4,.n 8040),(7,7,bu sy),(7,9,.c fD [0,8040] [0])]
def fZ(aa:List Value)(pp:List ah)(rr:ah)(a:iB->Unit->Prop)(b:iB->Unit->Prop):=aC 39 ia/\true=true/\∃(z:iB),aa=[ag (ja z),ai z.t]/\pp=[ak z.x z.s]/\(z.x.L.length<=1048576/\z.s.i<=z.x.L.length)/\fI z.x rr/\(∀(c:Unit),bc z.x.L z.s 0 z.t=true->a z c)/\∀(d:Unit),bc z.x.L z.s 0 z.t=false->b z d
def gg(j:iB):=dL (aB j.x.L j.x.fin j.s).pos 60
theorem abx(x:bk Unit)(F:ah)(X:aQ.cond (bm (fun(_:Unit)=>ap.cond)) x)(E:aQ.aO (bm (fun(_:Unit)=>ap.cond)) x F):cq x.n 37 [ag (b_ x),ad 0] [ak x.x x.s] (tm x F) (fun p o=>fJ [ag (b_ x),ai ⟨#[63]⟩] [ak p.x o.snd] (aH (lf p o F) [0]) (fun n m=>cq x.n 14 (eg x) [ak n.x n.s.ay] (aH (mr n F) [0]) (fun l k=>fZ [ag (b_ x),ai ⟨#[58]⟩] [ak l.x k.snd] (aH (lf l k F) [0]) (fun j i=>cq x.n 14 (eg x) [ak j.x j.s.ay] (aH (mr j F) [0]) (fun h g=>∀(f:Nat),ri [ag (b_ x),ad o.fst] [ak h.x g.snd] (fun e d=>c7 [ag (b_ x),agg ⟨[ad 15,ai ⟨#[]⟩,float f64 0,au (bI f) 3 3,ad (du e.s e.k)]⟩] [ak e.x e.s,af f [ad o.fst,ad k.fst,ad g.fst] 3] (fun c b=>ar (bm fun(a:Unit)=>ap.cond) x F (fq c) [(0,ak c.x (c.s.add c.n)),(1,F),(8040,bd)]))) (fun h b=>ar (bm fun(a:Unit)=>ap.cond) x F (cd b) (hT F))) (fun j b=>ar (bm fun(a:Unit)=>ap.cond) x F (gg j) (hT F))) (fun l b=>ar (bm fun(a:Unit)=>ap.cond) x F (cd b) (hT F))) (fun n b=>ar (bm fun(a:Unit)=>ap.cond) x F (jv o) (kf n F))) (fun p b=>ar (bm fun(a:Unit)=>ap.cond) x F (cd b) (hT F)):=by
 delta cq b_ tm ja fJ lf eg mr fZ ri kg kh c7 bI jQ fq cd hT gg jv kf dL aH ak ad ai ag au af bd ax;obtain⟨K,x,s,os,n,Z⟩:=x;obtain⟨Y,V,U,hp,D,C,t⟩:=X;replace E:cA K x F:=E;replace t:bs K x (n+1) .cond s≠.out:=t;dsimp only at Y V U hp D C⊢;obtain⟨r,e0⟩:∃r,bs K x (n+1) .cond s=r:=⟨_,rfl⟩;rw[e0]at t;have hk:=e0;unfold bs at hk;rw[P]at hk;have hl:=V.len;refine ca U (ft hk t) (fun c t1 hk g1 G N y J u R=>?_) (cB:=ao) (ct:=df _) (cN:=ao);dsimp only[ap.sl,al.ay,al.add]at G N y J u R;refine br jI ⟨x,t1,qm⟩ ⟨hl,g1.i⟩ (E.ls.sub (bP 1)) ⟨fun _ q=>?_,fun _ q=>?_⟩;rotate_left
 ·rw[lj q]at hk;exact ew (e0.trans hk.symm)
 rw[kJ q]at hk;simp only[Bool.not_true,aM,aU]at hk;have W:=g1.is q;refine ca W (ft hk t) (fun a t2 hk g3 H O z L v S=>?_) (cB:=ao) (ct:=ao) (cN:=ao);dsimp only[ap.sl,al.ay,al.add]at H O z L v S;refine ma g3 hk (fun hk B=>?_);refine ca B (ft hk t) (fun b t3 hk g4 I Q A M w T=>?_) (cB:=ao) (ct:=ao) (cN:=ao);dsimp only[ap.sl,al.ay,al.add]at I Q A M w T;rw[zL,iM]at hk;intro lb;refine bO vP ⟨x,t3,c⟩ (g4.jy aL) fun _ _=>?_;refine bO e_ ⟨x,t3,⟨15,.empty,0,[c,a,b],du t3 c⟩,kB lb [c,a,b]⟩ ⟨by have:=g4.cap hl;dsimp only[al.ay,al.add]at*;omega,jo lb [c,a,b]⟩ fun _ _=>?_;exact ew (e0.trans hk.symm)
theorem abw:aC 23 (bm (fun(_:Unit)=>ap.cond)):=fo 28 Tryz.func23 abv [] aY aY bA [] abx
end
section
open Go
theorem Bj{a b:Int}(h:(a !=b)=false):a=b:=by simpa using h
structure iC where
 c:Nat
def DQ(c:Nat)(d:bh):ah:=.cells c [.int .i64 d.kind,.string d.text,.float .f64 d.num,.int .i64 d.pos,.bool d.aD] 53
def ur(x:cf)(s:al):Prop:=(aB x.L x.fin s).kind=5\/(aB x.L x.fin s).kind=2
variable{s:al}{x:cf}
theorem ur.lt(h:ur x s):s.i<x.L.length:=ui (fin:=x.fin) (fun e=>by rcases h with h|h <;> rw[e]at h <;> cases h)
def uV(d:iC):Option Addr:=some ⟨d.c,0,none⟩
def oD(d:iC):=ag (uV d)
def akv(x:bk Unit)(F:ah):Nat->Option Inv:=fun
 |11=>some {X:=iC,P:=fun _=>ur x.x x.s,mu:=fun _=>0,lv:=fun d=>[(0,ag (b_ x)),(3,oD d),(19,(ai (aB x.x.L x.x.fin x.s).text)),(20,aj (cI tK (aB x.x.L x.x.fin x.s).text))],st:=fun d=>[ak x.x x.s,F,DQ d.c (aB x.x.L x.x.fin x.s)]}
 |18=>some {X:=iC,P:=fun _=>ur x.x x.s/\cI tK (aB x.x.L x.x.fin x.s).text=false,mu:=fun _=>0,lv:=fun d=>[(0,ag (b_ x)),(3,oD d),(51,aj (cI [pp,mm] (aB x.x.L x.x.fin x.s).text))],st:=fun d=>[ak x.x x.s,F,DQ d.c (aB x.x.L x.x.fin x.s)]}
 |_=>none
def akw(x:bk Unit)(a:ah):List (Nat×Nat×OH):=[(1,1,aW iq),(1,2,.n 2020),(1,3,.w (eJ 2020)),(2,1,aR 2020),(2,5,aR 2020),(3,1,bu (cx x.n 77)),(4,1,aR 2020),
 (11,3,c9),(11,7,dV fE),(12,1,bu (cx x.n 64)),(13,1,aR 2),(14,2,bu yY),(15,2,aR 2),(15,4,.n 16040),(15,6,aR 2),(15,8,.c fD [0,16040] [0]),
 (18,3,c9),(18,7,dV fE),(19,1,bu (cx x.n 64)),(20,2,bu yY),(21,2,aR 2),(21,4,.n 22040),(21,6,aR 2),(21,8,.c fD [0,22040] [0]),(22,1,bu (cx x.n 77))]
def ww(x:bk Unit)(F:ah)(p:Nat)(r:cW):=[(0,ak x.x x.s),(1,F),(2020,af p (q0 r) 53)]
def Q4(r:cW):=(cn r.L r.fin r.i).text.toList==(ByteArray.mk #[45]).toList
def q8(x:bk Unit):List Value:=[ad (aB x.x.L x.x.fin x.s).kind,ai (aB x.x.L x.x.fin x.s).text,float f64 (aB x.x.L x.x.fin x.s).num,ad (aB x.x.L x.x.fin x.s).pos,aj (aB x.x.L x.x.fin x.s).aD]
def BR(x:bk Unit)(F:ah)(o:iC):=[(0,ak x.x x.s),(1,F),(2,af o.c (q8 x) 53)]
def xT(e0:bk Unit)(e1:ah)(v0 v1 v2:Value)(a:St):=∃(z:iC),ur e0.x e0.s/\(ag (b_ e0)=ag (b_ e0)/\v0=ag (uV z)/\v1=ai (aB e0.x.L e0.x.fin e0.s).text/\v2=aj (cI tK (aB e0.x.L e0.x.fin e0.s).text)/\True)/\aE a (BR e0 e1 z)
def Q3(r:cW):=(cn r.L r.fin r.i).text.toList==(ByteArray.mk #[43]).toList
def Q2(r:cW):=(cn r.L r.fin r.i).text.toList==(ByteArray.mk #[33]).toList
def QZ(r:cW):=(cn r.L r.fin r.i).text.toList==(ByteArray.mk #[126]).toList
def Qh(r:cW):=(cn r.L r.fin r.i).text.toList==(ByteArray.mk #[116,121,112,101,111,102]).toList
def Pt(x:bk Unit)(d:Nat):List Value:=[ag (b_ x),agg ⟨[ad 11,ai (aB x.x.L x.x.fin x.s).text,float f64 0,au (bI d) 1 1,ad (aB x.x.L x.x.fin x.s).pos]⟩]
def bN(g:Int×al):List Value:=[ad g.fst]
def PQ(x:bk Unit)(F:ah)(o:iC):n6->Unit->Prop:=fun c b=>ar (bm fun(a:Unit)=>ap.unary) x F (fq c) [(0,ak c.x (c.s.add c.n)),(1,F),(2,af o.c (q8 x) 53),(16040,bd)]
def EJ(F:ah)(o:iC)(x:bk Unit):=[(0,bd),(1,F),(2,af o.c (q8 x) 53)]
def Ro(x:bk Unit)(F:ah)(o:iC):Ak->Unit->Prop:=fun f b=>ar (bm fun(a:Unit)=>ap.unary) x F (dL (du f.s f.k) 61) (EJ F o x)
def QW(x:bk Unit):=(aB x.x.L x.x.fin x.s).text.toList==(ByteArray.mk #[43,43]).toList
def Rl(x:bk Unit):=ur x.x x.s/\cI tK (aB x.x.L x.x.fin x.s).text=false
def L2(e0:bk Unit)(e1:ah)(v0 v1:Value)(a:St):=∃(z:iC),Rl e0/\(ag (b_ e0)=ag (b_ e0)/\v0=ag (uV z)/\v1=aj (cI [pp,mm] (aB e0.x.L e0.x.fin e0.s).text)/\True)/\aE a (BR e0 e1 z)
def q3(p:Nat)(r:cW)(x:bk Unit)(F:ah):=aw p 1/\Br (Q4 r) (xT x F (cE p) (uK r) (aj (Q4 r)) (ww x F p r)) (Br (Q3 r) (xT x F (cE p) (uK r) (aj (Q3 r)) (ww x F p r)) (Br (Q2 r) (xT x F (cE p) (uK r) (aj (Q2 r)) (ww x F p r)) (Br (QZ r) (xT x F (cE p) (uK r) (aj (QZ r)) (ww x F p r)) (Br (Qh r) (xT x F (cE p) (uK r) (aj (Qh r)) (ww x F p r)) (xT x F (cE p) (uK r) (aj ((cn r.L r.fin r.i).text.toList==(ByteArray.mk #[100,101,108,101,116,101]).toList)) (ww x F p r))))))/\aT fun(o:iC)_=>ur x.x x.s->Br (cI tK (aB x.x.L x.x.fin x.s).text) (T1 (ak x.x x.s) ⟨x.x.b,1,none⟩ (fun k=>dx k/\dK (ba Tryz.f64 11 7) (mY x k) [ak x.x x.s] (fun j i=>cq x.n 64 (eg x) [ak j.x j.t] (aH [(0,ak j.x j.t),(1,F),(2,af o.c (q8 x) 53)] [0]) (fun h g=>aw o.c 1/\Br ((aB x.x.L x.x.fin x.s).text.toList==(ByteArray.mk #[100,101,108,101,116,101]).toList) (C9 [ag (b_ x),ad g.fst,aj false] [ak h.x g.snd] (fun f e=>aw o.c 1/\∀(d:Nat),aw o.c 3/\c7 (Pt x d) [ak f.x f.s,af d (bN g) 3] (PQ x F o)) (Ro x F o)) (aw o.c 1/\∀(d:Nat),aw o.c 3/\c7 (Pt x d) [ak h.x g.snd,af d (bN g) 3] (PQ x F o))) (fun h b=>ar (bm fun(a:Unit)=>ap.unary) x F (cd b) (EJ F o x))))) (Br (QW x) (L2 x F (oD o) (aj (QW x)) (BR x F o)) (L2 x F (oD o) (aj ((aB x.x.L x.x.fin x.s).text.toList==(ByteArray.mk #[45,45]).toList)) (BR x F o))/\aT fun(m:iC)_=>Rl x->Br (cI [pp,mm] (aB x.x.L x.x.fin x.s).text) (T1 (ak x.x x.s) ⟨x.x.b,1,none⟩ (fun k=>dx k/\dK (ba Tryz.f64 18 7) (mY x k) [ak x.x x.s] (fun j i=>cq x.n 64 (eg x) [ak j.x j.t] (aH [(0,ak j.x j.t),(1,F),(2,af m.c (q8 x) 53)] [0]) (fun h g=>C9 [ag (b_ x),ad g.fst,aj true] [ak h.x g.snd] (fun f e=>aw m.c 1/\∀(d:Nat),aw m.c 3/\c7 [ag (b_ x),agg ⟨[ad 12,ai (aB x.x.L x.x.fin x.s).text,float f64 4607182418800017408,au (bI d) 1 1,ad (aB x.x.L x.x.fin x.s).pos]⟩] [ak f.x f.s,af d (bN g) 3] (fun c b=>ar (bm fun(a:Unit)=>ap.unary) x F (fq c) [(0,ak c.x (c.s.add c.n)),(1,F),(2,af m.c (q8 x) 53),(22040,bd)])) (Ro x F m)) (fun h b=>ar (bm fun(a:Unit)=>ap.unary) x F (cd b) (EJ F m x))))) (cq x.n 77 (eg x) [ak x.x x.s] (aH (BR x F m) [0]) (fun c b=>ar (bm fun(a:Unit)=>ap.unary) x F (jv b) [(0,ak c.x b.snd),(1,F),(2,af m.c (q8 x) 53)]) (fun c b=>ar (bm fun(a:Unit)=>ap.unary) x F (cd b) (EJ F m x))))
theorem aky(x:bk Unit)(F:ah)(I:aQ.cond (bm (fun(_:Unit)=>ap.unary)) x)(y:aQ.aO (bm (fun(_:Unit)=>ap.unary)) x F):e7 (eg x) (aH [(0,ak x.x x.s),(1,F)] []) (fun r q=>∀(p:Nat),cz p (aw p 0/\Br (wQ r) (aw p 0/\Br ((cn r.L r.fin r.i).kind !=2) (cq x.n 77 (eg x) [ak x.x x.s] (aH (ww x F p r) [0]) (fun c b=>ar (bm fun(a:Unit)=>ap.unary) x F (jv b) [(0,ak c.x b.snd),(1,F),(2020,af p (q0 r) 53)]) (fun c b=>ar (bm fun(a:Unit)=>ap.unary) x F (cd b) [(0,bd),(1,F),(2020,af p (q0 r) 53)])) (q3 p r x F)) (q3 p r x F))):=by
 delta ib e7 b_ eg wQ cq q0 ww jv cd Q4 uV q8 BR xT bI cE uK Q3 Q2 QZ Qh T1 dx lg lh dK mY C9 kg kh c7 Pt bN jQ fq PQ EJ Ro QW Rl L2 oD q3 dL aH ak aw cz ad ai aj ag au af bd ax aT;obtain⟨K,x,s,os,n,M⟩:=x;obtain⟨J,z,g,hp,w,v,j⟩:=I;replace y:cA K x F:=y;replace j:bs K x (n+1) .unary s≠.out:=j;dsimp only at J z g hp w v⊢;obtain⟨r,e0⟩:∃r,bs K x (n+1) .unary s=r:=⟨_,rfl⟩;rw[e0]at j;have hk:=e0;unfold bs at hk;rw[P]at hk;have hl:=z.len;rw[m6]at hk;refine br kz (x.p s) hl (y.ls.da 0 1 aL aL rfl rfl) fun _ _ c=>?_
 repeat (refine⟨aq,?_⟩)
 refine kL (A:=ur x s) (fun B=>aG (fun u=>⟨aq,aG (fun d=>?_) (fun d=>B ?_)⟩) (fun u=>B ?_)) (fun hx=>?_)
 ·replace u:((aB x.L x.fin s).kind !=5)=true:=u;replace d:((aB x.L x.fin s).kind !=2)=true:=d;rw[u,d,Bool.and_self,aU]at hk;exact ca g (ty hk j) (fun _ _ q _ _ _ _ _ _ _=>ew (e0.trans q.symm)) (cB:=ao) (ct:=ao) (cN:=ao)
 ·exact .inr (Bj d)
 ·exact .inl (Bj u)
 have H:((aB x.L x.fin s).kind !=5&&(aB x.L x.fin s).kind !=2)=false:=by rcases hx with h|h <;> rw[h] <;> rfl
 rw[H,aM]at hk;refine⟨aq,?_,?_⟩
 ·refine aG (fun e1=>⟨⟨c⟩,hx,⟨rfl,rfl,rfl,?_,ao⟩,az [0,1,2020]⟩) (fun e1=>aG (fun C=>⟨⟨c⟩,hx,⟨rfl,rfl,rfl,?_,ao⟩,az [0,1,2020]⟩) (fun C=>aG (fun D=>⟨⟨c⟩,hx,⟨rfl,rfl,rfl,?_,ao⟩,az [0,1,2020]⟩) (fun D=>aG (fun E=>⟨⟨c⟩,hx,⟨rfl,rfl,rfl,?_,ao⟩,az [0,1,2020]⟩) (fun E=>aG (fun G=>⟨⟨c⟩,hx,⟨rfl,rfl,rfl,?_,ao⟩,az [0,1,2020]⟩) (fun G=>⟨⟨c⟩,hx,⟨rfl,rfl,rfl,?_,ao⟩,az [0,1,2020]⟩)))))
  all_goals
   simp only[fS]at*;show bool (bC (aB x.L x.fin s).text _)=bool (cI tK (aB x.L x.fin s).text);congr 1;simp only[adO,cI,tK,List.any_cons,List.any_nil];simp only[cf.p]at*;simp[*]
 rintro⟨c⟩ L-;refine aG (fun h=>?_) (fun h=>?_)
 ·rw[h,aU,kK]at hk;refine⟨_,ef fun _=>rfl,mP (i:=s.i) (gR g.i hl),gk rfl rfl rfl,rfl,⟨x,s,s.ay,1,_⟩,rfl,rfl,⟨fun _=>rfl,rfl,bg,rfl,rfl⟩,ao,fun _ _=>?_⟩;refine ca ((g.step hx.lt)) (ft hk j) (fun k t1 hk g1 l o f m e t=>?_) (cB:=ao) (ct:=ao) (cN:=ao);dsimp only[ap.sl,al.ay,al.add]at l o f m e t;refine⟨aq,aG (fun hd=>?_) (fun hd=>?_)⟩
  ·rw[fS]at hd;rw[show bC (aB x.L x.fin s).text R9=true from hd,aU]at hk;refine bO HJ ⟨x,t1,k,false⟩ (g1.jy aL) ⟨fun _ q=>?_,fun _ q=>⟨.inr (_,_),⟨_,e0.trans (hk.symm.trans (Ku q))⟩,rfl,az [1]⟩⟩;rw[Kv q]at hk;rw[iM]at hk;refine⟨aq,fun lb=>⟨aq,?_⟩⟩;refine bO e_ ⟨x,t1,⟨11,(aB x.L x.fin s).text,0,[k],(aB x.L x.fin s).pos⟩,kB lb [k]⟩ ⟨by have:=g1.cap hl;dsimp only[al.ay,al.add]at*;omega,jo lb [k]⟩ fun _ _=>?_;exact ew (e0.trans hk.symm)
  ·rw[fS]at hd;rw[show bC (aB x.L x.fin s).text R9=false from hd,aM,ie]at hk;rw[iM]at hk;refine⟨aq,fun lb=>⟨aq,?_⟩⟩;refine bO e_ ⟨x,t1,⟨11,(aB x.L x.fin s).text,0,[k],(aB x.L x.fin s).pos⟩,kB lb [k]⟩ ⟨by have:=g1.cap hl;dsimp only[al.ay,al.add]at*;omega,jo lb [k]⟩ fun _ _=>?_;exact ew (e0.trans hk.symm)
 rw[h,aM]at hk;refine⟨aG (fun e1=>⟨⟨c⟩,⟨hx,h⟩,⟨rfl,rfl,?_,ao⟩,az [0,1,2]⟩) (fun e1=>⟨⟨c⟩,⟨hx,h⟩,⟨rfl,rfl,?_,ao⟩,az [0,1,2]⟩),?_⟩
 ·simp only[fS]at*;show bool (bC (aB x.L x.fin s).text _)=bool (cI [pp,mm] (aB x.L x.fin s).text);congr 1;simp only[cI,pp,mm,List.any_cons,List.any_nil];simp[*]
 ·simp only[fS]at*;show bool (bC (aB x.L x.fin s).text _)=bool (cI [pp,mm] (aB x.L x.fin s).text);congr 1;simp only[cI,pp,mm,List.any_cons,List.any_nil];simp[*]
 rintro⟨c⟩ L-;refine aG (fun d=>?_) (fun d=>?_)
 ·rw[d,aU,kK]at hk;refine⟨_,ef fun _=>rfl,mP (i:=s.i) (gR g.i hl),gk rfl rfl rfl,rfl,⟨x,s,s.ay,1,_⟩,rfl,rfl,⟨fun _=>rfl,rfl,bg,rfl,rfl⟩,ao,fun _ _=>?_⟩;refine ca ((g.step hx.lt)) (ft hk j) (fun k t1 hk g1 l o f m e t=>?_) (cB:=ao) (ct:=ao) (cN:=ao);dsimp only[ap.sl,al.ay,al.add]at l o f m e t;refine bO HJ ⟨x,t1,k,true⟩ (g1.jy aL) ⟨fun _ q=>?_,fun _ q=>⟨.inr (_,_),⟨_,e0.trans (hk.symm.trans (Ku q))⟩,rfl,az [1]⟩⟩;rw[Kv q]at hk;rw[iM]at hk;refine⟨aq,fun lb=>⟨aq,?_⟩⟩;refine bO e_ ⟨x,t1,⟨12,(aB x.L x.fin s).text,kZ,[k],(aB x.L x.fin s).pos⟩,kB lb [k]⟩ ⟨by have:=g1.cap hl;dsimp only[al.ay,al.add]at*;omega,jo lb [k]⟩ fun _ _=>?_;exact ew (e0.trans hk.symm)
 rw[d,aM]at hk;exact ca g (ty hk j) (fun _ _ q _ _ _ _ _ _ _=>ew (e0.trans q.symm)) (cB:=ao) (ct:=ao) (cN:=ao)
theorem akx:aC 64 (bm (fun(_:Unit)=>ap.unary)):=fo 77 Tryz.func64 akw [] aY akv bA [] aky
def aa8(x:bk Unit)(a:ah):List (Nat×Nat×OH):=[(1,1,bu (cx x.n 92)),(2,1,aW iq),(2,2,.n 3020),(2,3,.w (eJ 3020)),(3,1,aR 3020),(3,5,aR 3020),(3,9,aR 3020),(3,13,aR 3020),(5,2,bu yY),(6,3,c9),(6,7,dV fE),(7,2,aR 3020),(7,4,.n 8040),(7,7,bu sy),(7,9,.c fD [0,8040] [0])]
def aa7:Nat->List Nat:=fun r=>if r=7 then [0,1,2,3,5,6,7,4,8,9,10] else []
def OE(x:bk Unit)(o:Int×al)(p:nj)(l:Nat)(n:cW)(F:ah):=aC 26 yY/\true=true/\∃(k:Ak),[ag (b_ x),ad o.fst,aj true]=[ag (some ⟨k.x.b,0,none⟩),ad k.k,aj k.ir]/\[ak p.x o.snd]=[ak k.x k.s]/\(0<=k.k/\k.k<k.s.nodes.length)/\True/\(∀(j:Unit),j_ k.s k.k k.ir=false->∃(i:Int),aP (ak k.x k.s) ⟨x.x.b,1,none⟩ (ad i)/\dx i/\e5 Tryz.prog (ba Tryz.f77 6 7) fE/\true=true/\∃(h:sq),(mY x i)=[ag (some ⟨h.x.b,h.k,none⟩),h.v]/\[ak k.x k.s]=[ak h.x h.s]/\((∀(a:Value),(lg h a).set h.k h.v=(lh h a))/\h.t.nodes=h.s.nodes/\h.k<7/\h.v.oneCell'=true/\h.v.cells=⟨[h.v]⟩)/\True/\∀(g:Unit),True->true=true/\d9 ⟨l,1,none⟩ l/\aC 27 sy/\true=true/\∃(f:FH),[ag (b_ x),ad o.fst]=[ag (some ⟨f.x.b,0,none⟩),ad f.k]/\[ak h.x h.t]=[ak f.x f.s]/\(0<=f.k/\f.k<f.s.nodes.length)/\True/\∀(e:Unit),True->∀(d:Nat),aC 18 fD/\true=true/\∃(c:n6),[ag (b_ x),agg ⟨[ad 12,ai (cn n.L n.fin n.i).text,float f64 0,au (bI d) 1 1,ad (du f.s f.k)]⟩]=(kg c)/\[ak f.x f.s,af d (bN o) 3]=[ak c.x c.s,c.kr.A]/\kh c/\True/\∀(b:Unit),True->ar (bm fun(a:Unit)=>ap.dD) x F (fq c) [(0,ak c.x (c.s.add c.n)),(1,F),(3020,af l (q0 n) 53),(8040,bd)])/\∀(b:Unit),j_ k.s k.k k.ir=true->ar (bm fun(a:Unit)=>ap.dD) x F (dL (du k.s k.k) 61) [(0,bd),(1,F),(3020,af l (q0 n) 53)]
theorem aa_(x:bk Unit)(F:ah)(I:aQ.cond (bm (fun(_:Unit)=>ap.dD)) x)(y:aQ.aO (bm (fun(_:Unit)=>ap.dD)) x F):cq x.n 92 (eg x) [ak x.x x.s] (tm x F) (fun p o=>e7 (eg x) (aH (lf p o F) []) (fun n m=>∀(l:Nat),cz l (aw l 0/\Br (wQ n) (ar (bm fun(a:Unit)=>ap.dD) x F (jv o) (wz p o F l n)) (aw l 4/\Br (cn n.L n.fin n.i).aD (ar (bm fun(a:Unit)=>ap.dD) x F (jv o) (wz p o F l n)) (d9 ⟨l,1,none⟩ l/\Br (!(cn n.L n.fin n.i).text.toList==(ByteArray.mk #[43,43]).toList) (d9 ⟨l,1,none⟩ l/\Br (!(cn n.L n.fin n.i).text.toList==(ByteArray.mk #[45,45]).toList) (ar (bm fun(a:Unit)=>ap.dD) x F (jv o) (wz p o F l n)) (OE x o p l n F)) (OE x o p l n F)))))) (fun p b=>ar (bm fun(a:Unit)=>ap.dD) x F (cd b) (hT F)):=by
 delta cq b_ eg tm ib e7 lf wQ jv q0 wz dx mY lg lh bI kg bN kh jQ fq OE cd hT dL aH ak aw cz ad ai aj ag au af bd ax;obtain⟨K,x,s,os,n,L⟩:=x;obtain⟨J,G,E,hp,w,v,j⟩:=I;replace y:cA K x F:=y;replace j:bs K x (n+1) .dD s≠.out:=j;dsimp only at J G E hp w v⊢;obtain⟨r,e0⟩:∃r,bs K x (n+1) .dD s=r:=⟨_,rfl⟩;rw[e0]at j;have hk:=e0;unfold bs at hk;rw[P]at hk;have hl:=G.len;refine ca E (ft hk j) (fun k t1 hk g1 z C u B t D=>?_) (cB:=ao) (ct:=ao) (cN:=ao);dsimp only[ap.sl,al.ay,al.add]at z C u B t D;rw[m6]at hk;refine br kz (x.p t1) hl (y.ls.da 0 1 aL aL rfl rfl) fun _ _ c=>?_
 repeat (refine⟨aq,?_⟩)
 refine kL (A:=(aB x.L x.fin t1).kind=5/\(aB x.L x.fin t1).aD=false/\(bC (aB x.L x.fin t1).text pp||bC (aB x.L x.fin t1).text mm)=true) (fun H=>aG (fun d=>?_) (fun d=>⟨aq,aG (fun f=>?_) (fun f=>⟨aq,aG (fun g=>⟨aq,aG (fun h=>?_) (fun h=>H ⟨Bj d,f,?_⟩)⟩) (fun g=>H ⟨Bj d,f,?_⟩)⟩)⟩)) (fun hx=>?_)
 ·replace d:((aB x.L x.fin t1).kind !=5)=true:=d;rw[d,Bool.true_or,aU]at hk;exact ew (e0.trans hk.symm)
 ·replace d:((aB x.L x.fin t1).kind !=5)=false:=d;replace f:(aB x.L x.fin t1).aD=true:=f;rw[d,f,Bool.true_or,mc,aU]at hk;exact ew (e0.trans hk.symm)
 ·replace d:((aB x.L x.fin t1).kind !=5)=false:=d;replace f:(aB x.L x.fin t1).aD=false:=f;rw[fS]at g h;rw[d,f,show(!bC (aB x.L x.fin t1).text pp)=true from g,show(!bC (aB x.L x.fin t1).text mm)=true from h]at hk;exact ew (e0.trans hk.symm)
 ·rw[fS]at h;have h:(!bC (aB x.L x.fin t1).text mm)=false:=h;rw[Bool.not_eq_false']at h;rw[h,mc]
 ·rw[fS]at g;have g:(!bC (aB x.L x.fin t1).text pp)=false:=g;rw[Bool.not_eq_false']at g;rw[g,Bool.true_or]
 obtain⟨d,f,g⟩:=hx;have h:(!bC (aB x.L x.fin t1).text pp&& !bC (aB x.L x.fin t1).text mm)=false:=by rw[<-Bool.not_or,g];rfl
 rw[d,f,h]at hk;simp only[bne_self_eq_false,Bool.or_false,aM]at hk;have hi:t1.i<x.L.length:=ui (fin:=x.fin) (fun e=>by rw[e]at d;cases d);refine bO HJ ⟨x,t1,k,true⟩ (g1.jy aL) ⟨fun _ q=>?_,fun _ q=>⟨.inr (_,_),⟨_,e0.trans (hk.symm.trans (Ku q))⟩,rfl,az [1]⟩⟩;rw[Kv q]at hk;rw[kK,zL,iM]at hk;refine⟨_,ef fun _=>rfl,mP (i:=t1.i) (gR g1.i hl),gk rfl rfl rfl,rfl,⟨x,t1,t1.ay,1,_⟩,rfl,rfl,⟨fun _=>rfl,rfl,bg,rfl,rfl⟩,ao,fun _ _=>?_⟩;refine⟨rfl,aq,?_⟩;refine bO vP ⟨x,t1.ay,k⟩ (((g1.step hi)).jy aL) fun _ _=>?_;intro lb;refine bO e_ ⟨x,t1.ay,⟨12,(aB x.L x.fin t1).text,0,[k],du t1.ay k⟩,kB lb [k]⟩ ⟨by have:=((g1.step hi)).cap hl;dsimp only[al.ay,al.add]at*;omega,jo lb [k]⟩ fun _ _=>?_;exact ew (e0.trans hk.symm)
theorem aa9:aC 77 (bm (fun(_:Unit)=>ap.dD)):=fo 47 Tryz.func77 aa8 [] aY aY aa7 [] aa_
def aib(x:bk Unit)(a:ah):List (Nat×Nat×OH):=[(1,1,bu ia),(2,1,bu (cx x.n 14)),(3,1,bu ia)]
theorem aid(x:bk Unit)(F:ah)(z:aQ.cond (bm (fun(_:Unit)=>ap.paren)) x)(w:aQ.aO (bm (fun(_:Unit)=>ap.paren)) x F):fZ [ag (b_ x),ai ⟨#[40]⟩] [ak x.x x.s] (tm x F) (fun g f=>cq x.n 14 (eg x) [ak g.x g.s.ay] (aH (mr g F) [0]) (fun e d=>fZ [ag (b_ x),ai ⟨#[41]⟩] [ak e.x d.snd] (aH (lf e d F) [0]) (fun c b=>ar (bm fun(a:Unit)=>ap.paren) x F (jv d) (mr c F)) (fun c b=>ar (bm fun(a:Unit)=>ap.paren) x F (gg c) (hT F))) (fun e b=>ar (bm fun(a:Unit)=>ap.paren) x F (cd b) (hT F))) (fun g b=>ar (bm fun(a:Unit)=>ap.paren) x F (gg g) (hT F)):=by
 delta ja fZ b_ tm cq eg mr lf jv gg hT cd dL aH ak ad ai ag bd ax;obtain⟨K,x,s,os,n,B⟩:=x;obtain⟨A,v,u,hp,m,l,h⟩:=z;replace w:cA K x F:=w;replace h:bs K x (n+1) .paren s≠.out:=h;dsimp only at A v u hp m l⊢;obtain⟨r,e0⟩:∃r,bs K x (n+1) .paren s=r:=⟨_,rfl⟩;rw[e0]at h;have hk:=e0;unfold bs at hk;rw[P]at hk;have hl:=v.len;refine ma u hk (fun hk g1=>?_);refine ca g1 (ft hk h) (fun k t1 hk y o q j p i t=>?_) (cB:=ao) (ct:=ao) (cN:=ao);dsimp only[ap.sl,al.ay,al.add]at o q j p i t;refine ma y hk (fun hk g3=>?_);exact ew (e0.trans hk.symm)
theorem aic:aC 44 (bm (fun(_:Unit)=>ap.paren)):=fo 11 Tryz.func44 aib [] aY aY bA [] aid
theorem PG.No{t:al}{os:List Int}(h:PG x s os)(e:t.i=s.i)(a:t.nodes=s.nodes)(b:0<=t.bw/\t.bw<=s.i)(c:0<=t.loops/\t.loops<=s.i)(d:0<=t.bn/\t.bn<=s.i):PG x t os:=
 ⟨by rw[e];exact h.i,h.fo.same a,by rw[e,a];exact h.nd,by rw[e];exact b,by rw[e];exact c,by rw[e];exact d⟩
def afC(x:bk Unit)(a:ah):List (Nat×Nat×OH):=[(1,3,c9),(1,7,dV fE),(2,3,c9),(2,7,dV fE),(3,1,bu (cx x.n 17)),(4,3,c9),(4,7,dV fE),(5,3,c9),(5,7,dV fE)]
theorem afH(x:bk Unit)(F:ah)(G:aQ.cond (bm (fun(_:Unit)=>ap.loop)) x)(E:aQ.aO (bm (fun(_:Unit)=>ap.loop)) x F):T1 (ak x.x x.s) ⟨x.x.b,5,none⟩ (fun o=>dx o/\dK (ba Tryz.f45 1 7) [ag (some ⟨x.x.b,5,none⟩),ad (o+1)] [ak x.x x.s] (fun n m=>T1 (ak n.x n.t) ⟨x.x.b,6,none⟩ (fun l=>dx l/\dK (ba Tryz.f45 2 7) [ag (some ⟨x.x.b,6,none⟩),ad (l+1)] [ak n.x n.t] (fun k j=>cq x.n 17 [ag (b_ x),aj false] [ak k.x k.t] (aH [(0,ak k.x k.t),(1,F)] [0]) (fun i h=>T1 (ak i.x h.snd) ⟨x.x.b,5,none⟩ (fun g=>nR g/\dK (ba Tryz.f45 4 7) [ag (some ⟨x.x.b,5,none⟩),ad (g-1)] [ak i.x h.snd] (fun f e=>T1 (ak f.x f.t) ⟨x.x.b,6,none⟩ (fun d=>nR d/\dK (ba Tryz.f45 5 7) [ag (some ⟨x.x.b,6,none⟩),ad (d-1)] [ak f.x f.t] (fun c b=>ar (bm fun(a:Unit)=>ap.loop) x F (jv h) [(0,ak c.x c.t),(1,F)]))))) (fun i b=>ar (bm fun(a:Unit)=>ap.loop) x F (cd b) (hT F)))))):=by
 delta T1 dx lg lh dK cq b_ nR jv cd hT dL aH ak ad aj ag au bd ax;obtain⟨K,x,s,os,n,L⟩:=x;obtain⟨H,D,p,hp,y,q,u⟩:=G;replace E:cA K x F:=E;replace u:bs K x (n+1) .loop s≠.out:=u;dsimp only at H D p hp y q⊢;obtain⟨r,e0⟩:∃r,bs K x (n+1) .loop s=r:=⟨_,rfl⟩;rw[e0]at u;have hk:=e0;unfold bs at hk;rw[P]at hk;have hl:=D.len;rw[lU,zN]at hk;obtain⟨q1,q2⟩:s.loops<s.i/\s.bn<s.i:=q;have I:=p.l;have J:=p.b;have b3:=p.i;refine⟨_,ef fun _=>rfl,⟨by(try dsimp only);omega,by(try dsimp only);omega⟩,gk rfl rfl rfl,rfl,⟨x,s,⟨s.i,s.nodes,s.bw,s.loops+1,s.bn⟩,5,_⟩,rfl,rfl,⟨fun _=>rfl,rfl,bg,rfl,rfl⟩,ao,fun _ _=>?_⟩;refine⟨_,ef fun _=>rfl,⟨by(try dsimp only);omega,by(try dsimp only);omega⟩,gk rfl rfl rfl,rfl,⟨x,⟨s.i,s.nodes,s.bw,s.loops+1,s.bn⟩,⟨s.i,s.nodes,s.bw,s.loops+1,s.bn+1⟩,6,_⟩,rfl,rfl,⟨fun _=>rfl,rfl,bg,rfl,rfl⟩,ao,fun _ _=>?_⟩;refine ca ((p.No (t:=⟨s.i,s.nodes,s.bw,s.loops+1,s.bn+1⟩) rfl rfl p.f ⟨by(try dsimp only);omega,by(try dsimp only);omega⟩ ⟨by(try dsimp only);omega,by(try dsimp only);omega⟩)) (ft hk u) (fun k t1 hk g1 z B w A v C=>?_) (cB:=ao) (ct:=ao) (cN:=ao);dsimp only[ap.sl,al.ay,al.add]at z B w A v C;rw[lU,zN]at hk;refine⟨_,ef fun _=>rfl,⟨by(try dsimp only);omega,by(try dsimp only);omega⟩,gk rfl rfl rfl,rfl,⟨x,t1,⟨t1.i,t1.nodes,t1.bw,t1.loops-1,t1.bn⟩,5,_⟩,rfl,rfl,⟨fun _=>rfl,rfl,bg,rfl,rfl⟩,ao,fun _ _=>?_⟩;refine⟨_,ef fun _=>rfl,⟨by(try dsimp only);omega,by(try dsimp only);omega⟩,gk rfl rfl rfl,rfl,⟨x,⟨t1.i,t1.nodes,t1.bw,t1.loops-1,t1.bn⟩,⟨t1.i,t1.nodes,t1.bw,t1.loops-1,t1.bn-1⟩,6,_⟩,rfl,rfl,⟨fun _=>rfl,rfl,bg,rfl,rfl⟩,ao,fun _ _=>?_⟩;exact ew (e0.trans hk.symm)
theorem afF:aC 45 (bm (fun(_:Unit)=>ap.loop)):=fo 35 Tryz.func45 afC [] aY aY bA [] afH
end
section
open Go
variable{K:bQ}{os:List Int}{bG:List Nat}{n:Nat}{s:al}{x:cf}{S:St}{tag:ap}{α:Type}
theorem eO{β b:Type}{m:PM α}{f:α->PM β}{g:β->PM b}:((m>>=f)>>=g) s=(m>>=fun a=>f a>>=g) s:=by
 show b0 (b0 m f) g s=b0 m (fun a=>b0 (f a) g) s;unfold b0;cases m s <;> rfl
theorem V4{f:Nat}(h:f<=n)(a:bs K x f tag s≠.out):bs K x n tag s=bs K x f tag s:=by
 rcases FP (L:=x.L) (fin:=x.fin) (aI:=K.tv) (wide:=bx) h tag s with e|e
 ·exact absurd e a
 ·exact e
theorem Rn.up{f:Nat}{kk:Int->al->PR α}{r:PR α}(h:Rn (bs K x f tag s) kk r)(a:f<=n):Rn (bs K x n tag s) kk r:=by
 have e:bs K x n tag s=bs K x f tag s:=V4 a h.o;rw[e];exact h
theorem uo(k:Int):∀u∈bB [k],u.oneCell'=true:=by
 intro u a;have:u= .int .i64 k:=by simpa[bB]using a
 subst this;rfl
theorem u5{ks:List Int}{r:Row}(h:bz 3 1 (bB ks) r)(hn:ks.length<=4194304):(r.n+1)*8<=140737488355328:=by
 have:=h.len;rw[A_]at this;omega
theorem u6{ks:List Int}{r:Row}(h:bz 3 1 (bB ks) r)(hn:ks.length<=4194304):r.n+1<=9223372036854775807:=by
 have:=h.len;rw[A_]at this;omega
theorem vb{b:Nat}{ks:List Int}(j:Nat)(e:gt S j= .cells b (bB ks) 3)(c:j∉bG:=by simp):∀a,(some ⟨b,0,none⟩:Option Addr)=some a->c4 (.dq (rest S bG)) a (bB ks):=fun a d=>by
 cases d;refine c4.rest c ?_;rw[e];exact c4.cells (fun j u c=>by rw[gT];exact c)
theorem kQ{o:Oper}{lb:Nat}{rr:Row}{ks:List Int}{k:Int}{aa:List Value}{pp:List ah}{f:oZ->Row->Prop}(j:Nat)(b:bz 3 1 (bB ks) rr)(hn:ks.length<=4194304)
  (c:∀d,bz 3 1 (bB (ks++[k])) d->f ⟨rr,bB ks,some ⟨lb,0,none⟩,1,1,bB [k]⟩ d)
  (h:e5 Tryz.prog o (de 3 1 8):=by exact jE 1 8 rfl rfl rfl rfl rfl rfl rfl (by decide)) (i:aa=[.slice rr.a rr.n rr.cap,.slice (some ⟨lb,0,none⟩) 1 1]:=by exact rfl) (hp:pp=[rr.A]:=by exact rfl)
  (e:gt S j= .cells lb (bB [k]) 3:=by exact rfl) (l:j∉bG:=by simp):
  e5 Tryz.prog o (de 3 1 8)/\true=true/\∃z:oZ,aa=[.slice z.r.a z.r.n z.r.cap,.slice z.a z.m z.c]/\pp=[z.r.A]/\
   (bz 3 1 z.cs z.r/\z.ys.length=z.m*1/\(∀u:Value,u∈z.ys->u.oneCell'=true)/\(z.r.n+z.m)*8<=140737488355328/\z.r.n+z.m<=9223372036854775807/\(z.a=none->z.m=0/\z.c=0))/\
   (∀a:Addr,z.a=some a->c4 (.dq (rest S bG)) a z.ys)/\∀y:Row,(bz 3 1 (z.cs++z.ys) y/\y.n=z.r.n+z.m/\(z.m=0->y=z.r))->f z y:=
 ⟨h,rfl,⟨rr,bB ks,some ⟨lb,0,none⟩,1,1,bB [k]⟩,i,hp,⟨b,rfl,uo _,u5 b hn,u6 b hn,fun h=>nomatch h⟩,vb j e l,fun d g=>c d (by rw[um];exact g.1)⟩
theorem UP(n:Nat):(yy n).length=n:=by unfold yy;simp
theorem bR.len{fin:Int}(h:bR fin s os):os.length<=s.nodes.length:=by
 have:=h.yW.length_eq;rw[UP,eS]at this;omega
theorem o4{ks:List Int}(h:PG x s (os++ks))(hl:x.L.length<=1048576):ks.length<=2097152:=by
 have a:=h.fo.len;have b:=h.cap hl;rw[eS]at a;omega
structure ni where
 t:al
 ks:List Int
 r:Row
 f:Nat
 c:Nat
def lH(c:Nat)(kind:Int)(op:ByteArray)(num:Nat)(r:Row)(pos:Int):ah:=.cells c [.int .i64 kind,.string op,.float .f64 num,.slice r.a r.n r.cap,.int .i64 pos] 35
def i_(x:bk Bool):Option Addr:=some ⟨x.x.b,0,none⟩
def rV(d:ni):Option Addr:=some ⟨d.c,0,none⟩
def ag7(x:bk Bool)(F:ah):Nat->Option Inv:=fun
 |0=>some {X:=ni,P:=fun d=>PG x.x d.t (x.os++d.ks)/\bz 3 1 (bB d.ks) d.r/\d.f<=x.n/\(P x.x.L x.x.fin x.K.tv bx d.f (.fC d.ks x.t)>>=fun aJ=>cg ⟨23,.empty,0,aJ,(aB x.x.L x.x.fin x.s).pos⟩) d.t=bs x.K x.x (x.n+1) (.block x.t) x.s,mu:=fun d=>d.f,lv:=fun d=>[(0,ag (i_ x)),(1,aj x.t),(5,ag (rV d))],st:=fun d=>[ak x.x d.t,F,(lH d.c 23 .empty 0 d.r (aB x.x.L x.x.fin x.s).pos),d.r.A]}
 |_=>none
def ag8(x:bk Bool)(a:ah):List (Nat×Nat×OH):=[(1,1,aW iq),(1,4,.n 2040),(1,5,.w (eJ 2040)),(2,1,bu ia),(3,1,bu hZ),(4,1,aR 2),(4,4,bu (cx x.n 17)),(4,5,.n 5050),(4,6,.o (de 3 1 8) [3] [3]),(4,8,.w [.z00 2]),(5,1,.q (eJ 2)),(5,2,.c fD [0,3] [0])]
def IB(p:cW):List Value:=[ad 23,ai ⟨#[]⟩,float f64 0,au none 0 0,ad (cn p.L p.fin p.i).pos]
def J6(x:bk Bool)(b:ni):=PG x.x b.t (x.os++b.ks)/\bz 3 1 (bB b.ks) b.r/\b.f<=x.n/\(P x.x.L x.x.fin x.K.tv bx b.f (ap.fC b.ks x.t)>>=fun(a:List Int)=>cg ⟨(23:Int),ByteArray.empty,0,a,(aB x.x.L x.x.fin x.s).pos⟩) b.t=bs x.K x.x (x.n+1) (ap.block x.t) x.s
def zx(b:ni)(x:bk Bool):List Value:=[ad 23,ai ByteArray.empty,float f64 0,au b.r.a b.r.n b.r.cap,ad (aB x.x.L x.x.fin x.s).pos]
def Jt(x:bk Bool)(b:ni)(F:ah):=[(0,ak x.x b.t),(1,F),(2,af b.c (zx b x) 35),(3,b.r.A)]
def fz(c:Oper)(aa:List Value)(pp:List ah)(rr:ah)(b:oZ->Row->Prop):=e5 Tryz.prog c (de (3:TypeId) 1 8)/\true=true/\∃(z:oZ),aa=(kF z)/\pp=[z.r.A]/\(bz 3 1 z.cs z.r/\z.ys.length=z.m*1/\(∀(w0:Value),w0∈z.ys->w0.oneCell'=true)/\(z.r.n+z.m)*8<=140737488355328/\z.r.n+z.m<=9223372036854775807/\(z.a=none->z.m=0/\z.c=0))/\(∀(w0:Addr),z.a=some w0->c4 rr w0 z.ys)/\∀(a:Row),bz 3 1 (z.cs++z.ys) a/\a.n=z.r.n+z.m/\(z.m=0->a=z.r)->b z a
theorem ag_(x:bk Bool)(F:ah)(N:aQ.cond (bm (fun(b:Bool)=>ap.block b)) x)(w:aQ.aO (bm (fun(b:Bool)=>ap.block b)) x F):e7 [ag (i_ x)] (aH [(0,ak x.x x.s),(1,F)] []) (fun p o=>∀(n:Nat),cz n (fZ [ag (i_ x),ai ⟨#[123]⟩] [ak x.x x.s] (aH [(0,ak x.x x.s),(1,F),(2040,af n (IB p) 35)] [0]) (fun m l=>(∃(b:ni),J6 x b/\(ag (i_ x)=ag (i_ x)/\aj x.t=aj x.t/\ag (bI n)=ag (rV b)/\True)/\aE [(0,ak m.x m.s.ay),(1,F),(2040,af n (IB p) 35)] (Jt x b F))/\aT fun(k:ni)_=>J6 x k->fJ [ag (i_ x),ai ⟨#[125]⟩] [ak x.x k.t] (aH (Jt x k F) [0]) (fun i d=>cz k.c (c7 [ag (i_ x),agg ⟨zx k x⟩] [ak i.x i.s.ay,k.r.A] (fun c b=>ar (bm fun(a:Bool)=>ap.block a) x F (fq c) [(0,ak c.x (c.s.add c.n)),(1,F),(2,af k.c (zx k x) 35),(3,bd)]))) (fun i h=>true=true/\aw k.c 3/\cq x.n 17 [ag (i_ x),aj x.t] [ak i.x i.s] (aH [(0,ak i.x i.s),(1,F),(2,af k.c (zx k x) 35),(3,k.r.A)] [0]) (fun g f=>∀(e:Nat),fz (ba Tryz.f30 4 6) [au k.r.a k.r.n k.r.cap,au (bI e) 1 1] [k.r.A] (aH [(0,ak g.x f.snd),(1,F),(2,af k.c (zx k x) 35),(3,k.r.A),(5050,af e (bN f) 3)] [3]) (fun d c=>aw k.c 3/\∃(b:ni),J6 x b/\(ag (i_ x)=ag (i_ x)/\aj x.t=aj x.t/\ag (rV k)=ag (rV b)/\True)/\aE [(0,ak g.x f.snd),(1,F),(2,af k.c [ad 23,ai ByteArray.empty,float f64 0,au c.a c.n c.cap,ad (aB x.x.L x.x.fin x.s).pos] 35),(3,c.A),(5050,af e (bN f) 3)] (Jt x b F)/\b.f<k.f)) (fun g c=>∀(b:Tm),ar (bm fun(a:Bool)=>ap.block a) x F (cd c) [(0,bd),(1,F),(2,af k.c (zx k x) 35),(3,k.r.A)]))) (fun m b=>ar (bm fun(a:Bool)=>ap.block a) x F (gg m) [(0,bd),(1,F),(2040,af n (IB p) 35)]))):=by
 delta ib e7 i_ ja fZ IB J6 bI rV zx Jt fJ kg kh c7 jQ fq cq kF fz bN cd gg dL aH ak aw cz ad ai aj ag au af bd ax aT;obtain⟨K,x,s,os,n,J⟩:=x;obtain⟨Q,I,H,hp,B,A,v⟩:=N;replace w:cA K x F:=w;replace v:bs K x (n+1) (.block J) s≠.out:=v;dsimp only at Q I H hp B A⊢;obtain⟨r,e0⟩:∃r,bs K x (n+1) (.block J) s=r:=⟨_,rfl⟩;rw[e0]at v;have hk:=e0;unfold bs at hk;rw[P]at hk;have hl:=I.len;rw[m6]at hk;refine br kz (x.p s) hl (w.ls.da 0 1 aL aL rfl rfl) fun _ _ c=>?_
 repeat (refine⟨aq,?_⟩)
 refine ma H hk (fun hk g1=>?_);refine⟨⟨⟨s.ay,[],dG,n,c⟩,⟨g1.cast (dv _).symm,.nil rfl,bT _,hk.trans e0.symm⟩,aV,az [0,1,2040,999]⟩,?_⟩;clear hk;rintro⟨t,ks,R,f,c⟩ T ⟨g,j,u,hk⟩;dsimp only at g j u hk⊢;rw[e0]at hk;obtain _|f:=f
 ·exact absurd hk (fun e=>v (e.symm.trans (by rw[P];rfl)))
 replace u:f<=n:=Nat.le_of_succ_le u;rw[P,eO]at hk;refine br jI ⟨x,t,rc⟩ ⟨hl,g.i⟩ (w.ls.sub (bP 1)) ⟨fun _ q=>?_,fun _ q=>?_⟩
 ·rw[kJ q,aU,ie,iM]at hk;have L:=g.is q
  repeat (refine⟨aq,?_⟩)
  refine bO e_ ⟨x,t.ay,⟨23,.empty,0,ks,(aB x.L x.fin s).pos⟩,R⟩ ⟨by have:=L.cap hl;dsimp only[al.ay,al.add]at*;omega,j⟩ fun _ _=>?_;exact ew (e0.trans hk.symm)
 rw[lj q,aM,eO]at hk;refine⟨rfl,aq,?_⟩;refine ca g ((ft hk v).up u) (fun k t1 hk g1 C E z D y G=>?_) (cB:=ao) (ct:=ao) (cN:=ao);dsimp only[ap.sl,al.ay,al.add]at C E z D y G;intro lb;have O:=o4 g hl;refine kQ (ks:=ks) (k:=k) 5050 j ae (fun S M=>?_);exact⟨aq,⟨t1,ks++[k],S,f,c⟩,⟨g1.cast (jj _ _ _),M,u,hk.trans e0.symm⟩,aV,az [0,1,2,3],io _⟩
theorem ag9:aC 30 (bm (fun(b:Bool)=>ap.block b)):=fo 26 Tryz.func30 ag8 [] ag7 aY bA [] ag_
structure Dl where
 t:al
 ks:List Int
 r:Row
 f:Nat
 c:Nat
 d:Nat
 w:ByteArray
 kd:List Int
 rd:Row
 p:Int
def aiC(x:bk Unit)(F:ah):Nat->Option Inv:=fun
 |0=>some {X:=ni,P:=fun d=>PG x.x d.t (x.os++d.ks)/\bz 3 1 (bB d.ks) d.r/\d.f<=x.n/\(P x.x.L x.x.fin x.K.tv bx d.f (.dQ d.ks)>>=fun aJ=>cg ⟨21,.empty,0,aJ,(aB x.x.L x.x.fin x.s).pos⟩) d.t=bs x.K x.x (x.n+1) .vars x.s,mu:=fun d=>d.f,lv:=fun d=>[(0,ag (b_ x)),(3,ag (rV d))],st:=fun d=>[ak x.x d.t,F,(lH d.c 21 .empty 0 d.r (aB x.x.L x.x.fin x.s).pos),d.r.A]}
 |_=>none
def aiB(x:bk Unit)(F:ah):Nat->Option Inv:=fun
 |7=>some {X:=Dl,gh:=some ⟨Nat,fun d=>d.f⟩,P:=fun d=>PG x.x d.t (x.os++d.ks++d.kd)/\bz 3 1 (bB d.ks) d.r/\bz 3 1 (bB d.kd) d.rd/\d.f<=x.n/\(0<=d.p/\d.p<=x.x.fin)/\d.t.nodes.length+1<=2*d.t.i/\((db ⟨22,d.w,0,d.kd,d.p⟩>>=fun k=>cH x.x.L oj>>=fun h=>bif !h then ret (d.ks++[k]) else P x.x.L x.x.fin x.K.tv bx d.f (.dQ (d.ks++[k])))>>=fun aJ=>cg ⟨21,.empty,0,aJ,(aB x.x.L x.x.fin x.s).pos⟩) d.t=bs x.K x.x (x.n+1) .vars x.s,mu:=fun _=>0,lv:=fun d=>[(0,.pointer (some ⟨x.x.b,0,none⟩)),(3,.pointer (some ⟨d.c,0,none⟩)),(4,.pointer (some ⟨d.d,0,none⟩))],st:=fun d=>[ak x.x d.t,F,lH d.c 21 .empty 0 d.r (aB x.x.L x.x.fin x.s).pos,d.r.A,lH d.d 22 d.w 0 d.rd d.p,d.rd.A]}
 |_=>none
def aiD(x:bk Unit)(a:ah):List (Nat×Nat×OH):=[(1,1,aW iq),(1,4,.n 2040),(1,5,.w (eJ 2040)),(2,3,c9),(2,7,dV fE),(3,1,aW iq),(3,4,.n 4040),(3,5,.w (eJ 4040)),(4,1,bu tL),(4,3,.w [.z00 4040]),(5,1,bu hZ),(6,1,bu (cx x.n 14)),(6,2,.n 7020),(6,4,.w [.z00 4040]),
 (7,1,aR 2),(7,3,.q (eJ 4)),(7,4,.c fD [0,5] [0]),(7,5,.n 8050),(7,6,.o (de 3 1 8) [3] [3]),(7,8,.w [.z00 2]),(8,1,bu hZ),(9,1,.q (eJ 2)),(9,2,.c fD [0,3] [0])]
def J7(x:bk Unit)(b:ni):=PG x.x b.t (x.os++b.ks)/\bz 3 1 (bB b.ks) b.r/\b.f<=x.n/\(P x.x.L x.x.fin x.K.tv bx b.f (ap.dQ b.ks)>>=fun(a:List Int)=>cg ⟨(21:Int),ByteArray.empty,0,a,(aB x.x.L x.x.fin x.s).pos⟩) b.t=bs x.K x.x (x.n+1) ap.vars x.s
def oG(b:ni)(x:bk Unit):List Value:=[ad 21,ai ByteArray.empty,float f64 0,au b.r.a b.r.n b.r.cap,ad (aB x.x.L x.x.fin x.s).pos]
def Js(x:bk Unit)(b:ni)(F:ah):=[(0,ak x.x b.t),(1,F),(2,af b.c (oG b x) 35),(3,b.r.A)]
def xU(aa:List Value)(pp:List ah)(rr:ah)(a:jC->Unit->Prop)(b:jC->Unit->Prop):=aC 65 tL/\true=true/\∃(z:jC),aa=(lN z)/\pp=[ak z.x z.s]/\z.x.L.length<=1048576/\fI z.x rr/\(∀(c:Unit),(aB z.x.L z.x.fin z.s).kind=1->a z c)/\∀(d:Unit),((aB z.x.L z.x.fin z.s).kind=1->False)->b z d
def Qi(t:cW):List Value:=[ad 22,ai ⟨#[]⟩,float f64 0,au none 0 0,ad (cn t.L t.fin t.i).pos]
def Ea(q:jC)(t:cW):List Value:=[ad 22,ai (aB q.x.L q.x.fin q.s).text,float f64 0,au none 0 0,ad (cn t.L t.fin t.i).pos]
def Qm(z:Dl)(e0:bk Unit):List Value:=[ad 21,ai ByteArray.empty,float f64 0,au z.r.a z.r.n z.r.cap,ad (aB e0.x.L e0.x.fin e0.s).pos]
def y9(z:Dl):List Value:=[ad 22,ai z.w,float f64 0,au z.rd.a z.rd.n z.rd.cap,ad z.p]
def L3(e0:bk Unit)(e1:Nat)(a:ah)(v0 v1:Value)(b:St):=∃(z:Dl),((PG e0.x z.t (e0.os++z.ks++z.kd)/\bz 3 1 (bB z.ks) z.r/\bz 3 1 (bB z.kd) z.rd/\z.f<=e0.n/\(0<=z.p/\z.p<=e0.x.fin)/\z.t.nodes.length+1<=2*z.t.i/\((do let k <-db ⟨(22:Int),z.w,0,z.kd,z.p⟩ let h <-cH e0.x.L oj bif !h then ret (z.ks++[k]) else P e0.x.L e0.x.fin e0.K.tv bx z.f (ap.dQ (z.ks++[k])))>>=fun(w0:List Int)=>cg ⟨(21:Int),ByteArray.empty,0,w0,(aB e0.x.L e0.x.fin e0.s).pos⟩) z.t=bs e0.K e0.x (e0.n+1) ap.vars e0.s)/\z.f=e1)/\(ag (b_ e0)=ag (b_ e0)/\v0=ag (some ⟨z.c,0,none⟩)/\v1=ag (some ⟨z.d,0,none⟩)/\True)/\aE b [(0,ak e0.x z.t),(1,a),(2,af z.c (Qm z e0) 35),(3,z.r.A),(4,af z.d (y9 z) 35),(5,z.rd.A)]
def oF(l:n6):List Value:=[ad ↑l.s.nodes.length]
def Eb(f:Row)(x:bk Unit):List Value:=[ad 21,ai ByteArray.empty,float f64 0,au f.a f.n f.cap,ad (aB x.x.L x.x.fin x.s).pos]
def zo(q:jC):=dL (aB q.x.L q.x.fin q.s).pos 60
theorem aiF(x:bk Unit)(F:ah)(hc:aQ.cond (bm (fun(_:Unit)=>ap.vars)) x)(H:aQ.aO (bm (fun(_:Unit)=>ap.vars)) x F):e7 (eg x) (aH [(0,ak x.x x.s),(1,F)] []) (fun C B=>∀(A:Nat),cz A (T1 (ak x.x x.s) ⟨x.x.b,1,none⟩ (fun z=>dx z/\dK (ba Tryz.f41 2 7) (mY x z) [ak x.x x.s] (fun y w=>(∃(b:ni),J7 x b/\(ag (b_ x)=ag (b_ x)/\ag (bI A)=ag (rV b)/\True)/\aE [(0,ak y.x y.t),(1,F),(2040,af A [ad 21,ai ⟨#[]⟩,float f64 0,au none 0 0,ad (cn C.L C.fin C.i).pos] 35)] (Js x b F))/\aT fun(v:ni)_=>J7 x v->e7 (eg x) (aH (Js x v F) []) (fun t s=>∀(r:Nat),cz r (xU (eg x) [ak x.x v.t] (aH [(0,ak x.x v.t),(1,F),(2,af v.c (oG v x) 35),(3,v.r.A),(4040,af r (Qi t) 35)] [0]) (fun q p=>aw r 1/\∃(o:Nat),fJ [ag (b_ x),ai ⟨#[61]⟩] [ak q.x q.s.ay] (aH [(0,ak q.x q.s.ay),(1,F),(2,af v.c (oG v x) 35),(3,v.r.A),(4040,af r (Ea q t) 35)] [0]) (fun g f=>cq x.n 14 (eg x) [ak g.x g.s.ay] (aH [(0,ak g.x g.s.ay),(1,F),(2,af v.c (oG v x) 35),(3,v.r.A),(4040,af r (Ea q t) 35)] [0]) (fun e d=>∀(c:Nat),aw r 3/\L3 x o F (ag (rV v)) (cE r) [(0,ak e.x d.snd),(1,F),(2,af v.c (oG v x) 35),(3,v.r.A),(4040,af r [ad 22,ai (aB q.x.L q.x.fin q.s).text,float f64 0,au (bI c) 1 1,ad (cn t.L t.fin t.i).pos] 35),(7020,af c (bN d) 3)]) (fun e b=>ar (bm fun(a:Unit)=>ap.vars) x F (cd b) [(0,bd),(1,F),(2,af v.c (oG v x) 35),(3,v.r.A),(4040,af r (Ea q t) 35)])) (fun g c=>L3 x o F (ag (rV v)) (cE r) [(0,ak g.x g.s),(1,F),(2,af v.c (oG v x) 35),(3,v.r.A),(4040,af r (Ea q t) 35)])/\aT fun(n:Dl)_=>((PG x.x n.t (x.os++n.ks++n.kd)/\bz 3 1 (bB n.ks) n.r/\bz 3 1 (bB n.kd) n.rd/\n.f<=x.n/\(0<=n.p/\n.p<=x.x.fin)/\n.t.nodes.length+1<=2*n.t.i/\((do let k <-db ⟨(22:Int),n.w,0,n.kd,n.p⟩ let h <-cH x.x.L oj bif !h then ret (n.ks++[k]) else P x.x.L x.x.fin x.K.tv bx n.f (ap.dQ (n.ks++[k])))>>=fun(a:List Int)=>cg ⟨(21:Int),ByteArray.empty,0,a,(aB x.x.L x.x.fin x.s).pos⟩) n.t=bs x.K x.x (x.n+1) ap.vars x.s)/\n.f=o)->true=true/\aw n.c 3/\cz n.d (c7 [ag (b_ x),agg ⟨y9 n⟩] [ak x.x n.t,n.rd.A] (fun l j=>∀(i:Nat),fz (ba Tryz.f41 7 6) [au n.r.a n.r.n n.r.cap,au (bI i) 1 1] [n.r.A] (aH [(0,ak l.x (l.s.add l.n)),(1,F),(2,af n.c (Qm n x) 35),(3,n.r.A),(4,af n.d (y9 n) 35),(5,bd),(8050,af i (oF l) 3)] [3]) (fun g f=>aw n.c 3/\fJ [ag (b_ x),ai ⟨#[44]⟩] [ak l.x (l.s.add l.n)] (aH [(0,ak l.x (l.s.add l.n)),(1,F),(2,af n.c (Eb f x) 35),(3,f.A),(4,af n.d (y9 n) 35),(5,bd),(8050,af i (oF l) 3)] [0]) (fun e c=>∃(b:ni),J7 x b/\(ag (b_ x)=ag (b_ x)/\ag (some ⟨n.c,0,none⟩)=ag (rV b)/\True)/\aE [(0,ak e.x e.s.ay),(1,F),(2,af n.c (Eb f x) 35),(3,f.A),(4,af n.d (y9 n) 35),(5,bd),(8050,af i (oF l) 3)] (Js x b F)/\b.f<v.f) (fun e d=>cz n.c (c7 [ag (b_ x),agg ⟨Eb f x⟩] [ak e.x e.s,f.A] (fun c b=>ar (bm fun(a:Unit)=>ap.vars) x F (fq c) [(0,ak c.x (c.s.add c.n)),(1,F),(2,af n.c (Eb f x) 35),(3,bd),(4,af n.d (y9 n) 35),(5,bd),(8050,af i (oF l) 3)]))))))) (fun q b=>ar (bm fun(a:Unit)=>ap.vars) x F (zo q) [(0,bd),(1,F),(2,af v.c (oG v x) 35),(3,v.r.A),(4040,af r (Qi t) 35)]))))))):=by
 delta ib e7 b_ eg T1 dx lg lh dK mY J7 bI rV oG Js mn lN xU Qi ja fJ Ea cq Qm y9 L3 cE bN cd kg kh c7 kF fz oF Eb jQ fq zo dL aH ak aw cz ad ai ag au af bd ax aT;obtain⟨K,x,s,os,n,tp⟩:=x;obtain⟨ih,Q,O,hp,G,S,I⟩:=hc;replace H:cA K x F:=H;replace I:bs K x (n+1) .vars s≠.out:=I;dsimp only at ih Q O hp G S⊢;obtain⟨r,e0⟩:∃r,bs K x (n+1) .vars s=r:=⟨_,rfl⟩;rw[e0]at I;have hk:=e0;unfold bs at hk;rw[P]at hk;have hl:=Q.len;have G:s.i<x.L.length:=G;rw[m6,kK]at hk;refine br kz (x.p s) hl (H.ls.da 0 1 aL aL rfl rfl) fun _ _ c=>?_
 repeat (refine⟨aq,?_⟩)
 refine⟨_,ef fun _=>rfl,mP (i:=s.i) (gR O.i hl),gk rfl rfl rfl,rfl,⟨x,s,s.ay,1,_⟩,rfl,rfl,⟨fun _=>rfl,rfl,bg,rfl,rfl⟩,ao,fun _ _=>?_⟩;have g1:=O.step G;refine⟨⟨⟨s.ay,[],dG,n,c⟩,⟨g1.cast (dv _).symm,.nil rfl,bT _,hk.trans e0.symm⟩,aV,az [0,1,2040,999]⟩,?_⟩;clear hk;rintro⟨t,ks,W,f,c⟩ js ⟨g,m,D,hk⟩;dsimp only at g m D hk⊢;rw[e0]at hk;obtain _|f:=f
 ·exact absurd hk (fun e=>I (e.symm.trans (by rw[P];rfl)))
 replace D:f<=n:=Nat.le_of_succ_le D;rw[P,eO]at hk;rw[m6,eO]at hk;refine br kz (x.p t) hl (H.ls.da 0 1 aL aL rfl rfl) fun _ _ d=>?_
 repeat (refine⟨aq,?_⟩)
 refine br KL ⟨x,t⟩ hl (H.ls.sub (bP 1)) ⟨fun _ q=>?_,fun _ q=>⟨.inr (_,_),⟨_,e0.trans (hk.symm.trans (Kw q))⟩,rfl,az [1]⟩⟩;rw[Kx q,eO]at hk;have hi:t.i<x.L.length:=ui (fin:=x.fin) (fun e=>by rw[e]at q;cases q);have L:=g.step hi;have u:=PG.hp Q t;have E:t.nodes.length<=2*t.i:=g.nd;refine⟨aq,f,?_,?_⟩
 ·skip
  refine br jI ⟨x,t.ay,eq⟩ ⟨hl,L.i⟩ (H.ls.sub (bP 1)) ⟨fun _ q=>?_,fun _ q=>?_⟩
  ·have g3:=L.is q;rw[kJ q,aU,eO]at hk;refine ca g3 ((zF hk I).up D) (fun k t1 hk g4 T V N U M X=>?_) (cB:=ao) (ct:=ao) (cN:=ao);dsimp only[ap.sl,al.ay,al.add]at T V N U M X;intro lb;exact⟨aq,⟨t1,ks,W,f,c,d,(aB x.L x.fin t).text,[k],kB lb [k],(aB x.L x.fin t).pos⟩,⟨⟨g4,m,jo lb [k],D,u,bg,hk.trans e0.symm⟩,rfl⟩,aV,az [0,1,2,3,4040,7020]⟩
  ·rw[lj q,aM,eO,ie]at hk;exact⟨⟨t.ay,ks,W,f,c,d,(aB x.L x.fin t).text,[],dG,(aB x.L x.fin t).pos⟩,⟨⟨L.cast (dv _).symm,m,.nil rfl,D,u,by dsimp only[al.ay];omega,hk.trans e0.symm⟩,rfl⟩,aV,az [0,1,2,3,4040,999]⟩
 clear hk q hi L u E D m g;rintro⟨t,ks,W,f',c,d,w,kd,rd,p⟩ js ⟨⟨g,m,J,D,u,E,hk⟩,e1⟩;have e1:f'=f:=e1;subst e1;dsimp only at g m J D u E hk⊢;rw[e0,eO,xi,eO]at hk;refine⟨rfl,aq,?_⟩
 repeat (refine⟨aq,?_⟩)
 have g3:=PG.node (n:=⟨22,w,0,kd,p⟩) g u E;refine bO e_ ⟨x,t,⟨22,w,0,kd,p⟩,rd⟩ ⟨by have:=g.cap hl;dsimp only[al.ay,al.add]at*;omega,J⟩ fun _ _=>?_;intro lb;have R:=o4 (os:=os) (ks:=ks++kd) (g.cast (jj _ _ _)) hl;rw[eS]at R;refine kQ (ks:=ks) (k:=(t.nodes.length:Int)) 8050 m ae (fun Z Y=>?_);refine⟨aq,?_⟩;refine br jI ⟨x,t.add ⟨22,w,0,kd,p⟩,oj⟩ ⟨hl,g3.i⟩ (H.ls.sub (bP 1)) ⟨fun _ q=>?_,fun _ q=>?_⟩
 ·rw[kJ q]at hk;simp only[Bool.not_true,aM]at hk;have g4:=g3.is q;exact⟨⟨_,_,Z,_,c⟩,⟨g4.cast (jj _ _ _),Y,D,hk.trans e0.symm⟩,aV,az [0,1,2,3],io _⟩
 ·rw[lj q]at hk;simp only[Bool.not_false,aU,ie,iM]at hk
  repeat (refine⟨aq,?_⟩)
  refine bO e_ ⟨x,t.add ⟨22,w,0,kd,p⟩,⟨21,.empty,0,ks++[(t.nodes.length:Int)],(aB x.L x.fin s).pos⟩,Z⟩ ⟨by have:=g3.cap hl;dsimp only[al.ay,al.add]at*;omega,Y⟩ fun _ _=>?_;exact ew (e0.trans hk.symm)
theorem aiE:aC 41 (bm (fun(_:Unit)=>ap.vars)):=fo 43 Tryz.func41 aiD [] aiC aiB bA [] aiF
end
section
open Go
def A2(L:List bh)(fin:Int)(tv:Nat->ByteArray)(n:Nat)(kind:Int)(op:ByteArray)(pos:Int)(a:List Int):PM (List Int):=do
 let s <-ez
 ic {s with bw:=s.bw+1,loops:=0,bn:=0}
 let b <-one (P L fin tv bx n (.block true))
 let t <-ez
 ic {t with bw:=t.bw-1,loops:=s.loops,bn:=s.bn}
 cg ⟨kind,op,0,a++[b],pos⟩
def Nq(L:List bh)(fin:Int)(tv:Nat->ByteArray)(n:Nat)(kind:Int)(op:ByteArray)(pos:Int):PM (List Int):=do
 cr L fin lp
 let a <-P L fin tv bx n (.dt [])
 A2 L fin tv n kind op pos a
def Nr(L:List bh)(fin:Int)(tv:Nat->ByteArray)(f:Nat)(ks:List Int):PM (List Int):=do
 let x <-e9 L fin
 let w <-gD L fin
 let k <-db ⟨3,w,0,[],x.pos⟩
 P L fin tv bx f (.dt (ks++[k]))
structure kt where
 t:al
 op:ByteArray
 ks:List Int
 r:Row
 f:Nat
 c:Nat
def kt.ok(d:kt)(x:cf)(s:al)(os:List Int)(n:Nat):Prop:=PG x d.t (os++d.ks)/\bz 3 1 (bB d.ks) d.r/\d.f<=n/\s.i+1<=d.t.i/\d.t.bw=s.bw/\d.t.loops=s.loops/\d.t.bn=s.bn
def cu(x:bk Int):Option Addr:=some ⟨x.x.b,0,none⟩
def qq(d:kt):Option Addr:=some ⟨d.c,0,none⟩
def ahp(x:bk Int)(F:ah):Nat->Option Inv:=fun
 |0=>some {X:=kt,P:=fun d=>d.ok x.x x.s x.os x.n/\(P x.x.L x.x.fin x.K.tv bx d.f (.dt d.ks)>>=A2 x.x.L x.x.fin x.K.tv x.n x.t d.op (aB x.x.L x.x.fin x.s).pos) d.t=bs x.K x.x (x.n+1) (.func x.t) x.s,mu:=fun d=>d.f,lv:=fun d=>[(0,ag (cu x)),(5,ag (qq d))],st:=fun d=>[ak x.x d.t,F,(lH d.c x.t d.op 0 d.r (aB x.x.L x.x.fin x.s).pos),d.r.A]}
 |_=>none
def aho(x:bk Int)(F:ah):Nat->Option Inv:=fun
 |5=>some {X:=kt,P:=fun d=>d.ok x.x x.s x.os x.n/\d.ks=[]/\Nq x.x.L x.x.fin x.K.tv x.n x.t d.op (aB x.x.L x.x.fin x.s).pos d.t=bs x.K x.x (x.n+1) (.func x.t) x.s,mu:=fun _=>0,lv:=fun d=>[(0,ag (cu x)),(5,ag (qq d))],st:=fun d=>[ak x.x d.t,F,(lH d.c x.t d.op 0 d.r (aB x.x.L x.x.fin x.s).pos),d.r.A]}
 |9=>some {X:=kt,gh:=some ⟨Nat,fun d=>d.f⟩,P:=fun d=>d.ok x.x x.s x.os x.n/\(Nr x.x.L x.x.fin x.K.tv d.f d.ks>>=A2 x.x.L x.x.fin x.K.tv x.n x.t d.op (aB x.x.L x.x.fin x.s).pos) d.t=bs x.K x.x (x.n+1) (.func x.t) x.s,mu:=fun _=>0,lv:=fun d=>[(0,ag (cu x)),(5,ag (qq d))],st:=fun d=>[ak x.x d.t,F,(lH d.c x.t d.op 0 d.r (aB x.x.L x.x.fin x.s).pos),d.r.A]}
 |_=>none
def ahr(x:bk Int)(a:ah):List (Nat×Nat×OH):=[(1,2,aW iq),(1,5,.n 2050),(1,6,.w (eJ 2050)),(2,3,c9),(2,7,dV fE),(3,4,aW wc),(4,1,bu tL),(4,3,.w [.z00 2050]),(5,1,bu ia),
 (6,1,bu hZ),(7,1,aR 2),(8,1,bu ia),(9,1,aW iq),(10,1,aR 2),(10,4,bu tL),(10,7,.c fD [0,999] [0]),(10,8,.n 11080),(10,9,.o (de 3 1 8) [3] [3]),(10,11,.w [.z00 2]),
 (11,3,c9),(11,7,c9),(12,6,c9),(12,10,dV fE),(12,13,dV fE),(12,16,dV fE),(13,1,aR 2),(13,3,bu (cx x.n 30)),(13,4,.n 14040),(13,5,.o (de 3 1 8) [3] [3]),(13,7,.w [.z00 2]),
 (14,6,c9),(14,12,dV fE),(14,15,dV fE),(14,18,dV fE),(15,1,.q (eJ 2)),(15,2,.c fD [0,3] [0])]
def ahq:Nat->List Nat:=fun r=>if r=10 then [0,1,2,3,5,4,6,7,8,9,10,11] else []
def jw(x:bk Int):List Value:=[ag (cu x)]
def Ef(x:bk Int)(N:cW):List Value:=[ad x.t,ai ⟨#[]⟩,float f64 0,au none 0 0,ad (cn N.L N.fin N.i).pos]
def Po(z:kt)(e0:bk Int):=z.ok e0.x e0.s e0.os e0.n/\z.ks=[]/\Nq e0.x.L e0.x.fin e0.K.tv e0.n e0.t z.op (aB e0.x.L e0.x.fin e0.s).pos z.t=bs e0.K e0.x (e0.n+1) (ap.func e0.t) e0.s
def tc(e0:bk Int)(z:kt):List Value:=[ad e0.t,ai z.op,float f64 0,au z.r.a z.r.n z.r.cap,ad (aB e0.x.L e0.x.fin e0.s).pos]
def uC(e0:bk Int)(z:kt)(e1:ah):=[(0,ak e0.x z.t),(1,e1),(2,af z.c (tc e0 z) 35),(3,z.r.A)]
def L4(e0:bk Int)(e1:ah)(v0:Value)(a:St):=∃(z:kt),Po z e0/\(ag (cu e0)=ag (cu e0)/\v0=ag (qq z)/\True)/\aE a (uC e0 z e1)
def RC(x:bk Int)(J:sq)(F:ah)(L:Nat)(N:cW):=xU (jw x) [ak J.x J.t] (aH [(0,ak J.x J.t),(1,F),(2050,af L (Ef x N) 35)] [0]) (fun c b=>aw L 1/\L4 x F (cE L) [(0,ak c.x c.s.ay),(1,F),(2050,af L [ad x.t,ai (aB c.x.L c.x.fin c.s).text,float f64 0,au none 0 0,ad (cn N.L N.fin N.i).pos] 35)]) (fun c b=>ar (bm fun(a:Int)=>ap.func a) x F (zo c) [(0,bd),(1,F),(2050,af L (Ef x N) 35)])
def Gi(aa:List Value)(rr:ah)(a:FN->Unit->Prop):=aC 66 wc/\true=true/\∃(z:FN),aa=[ag (some ⟨z.p.b,0,none⟩),ad ↑z.a]/\([]:List ah)=[]/\(z.p.L.length<=1048576/\z.p.i<=1048576/\z.a<=1048576)/\iD z.p rr/\∀(b:Unit),True->a z b
def HT(a:kt)(x:bk Int):=a.ok x.x x.s x.os x.n/\(P x.x.L x.x.fin x.K.tv bx a.f (ap.dt a.ks)>>=A2 x.x.L x.x.fin x.K.tv x.n x.t a.op (aB x.x.L x.x.fin x.s).pos) a.t=bs x.K x.x (x.n+1) (ap.func x.t) x.s
def zu(x:bk Int):List Value:=[ag (cu x),ai ⟨#[41]⟩]
def IK(x:bk Int)(C:kt)(k:Row):List Value:=[ad x.t,ai C.op,float f64 0,au k.a k.n k.cap,ad (aB x.x.L x.x.fin x.s).pos]
def EF(F:ah)(C:kt)(x:bk Int):=[(0,bd),(1,F),(2,af C.c (tc x C) 35),(3,C.r.A)]
def O3(z:kt)(e0:bk Int):=z.ok e0.x e0.s e0.os e0.n/\(Nr e0.x.L e0.x.fin e0.K.tv z.f z.ks>>=A2 e0.x.L e0.x.fin e0.K.tv e0.n e0.t z.op (aB e0.x.L e0.x.fin e0.s).pos) z.t=bs e0.K e0.x (e0.n+1) (ap.func e0.t) e0.s
def L5(e0:bk Int)(e1:Nat)(a:ah)(v0:Value)(b:St):=∃(z:kt),(O3 z e0/\z.f=e1)/\(ag (cu e0)=ag (cu e0)/\v0=ag (qq z)/\True)/\aE b (uC e0 z a)
theorem aht(x:bk Int)(F:ah)(hc:aQ.cond (bm (fun(k:Int)=>ap.func k)) x)(T:aQ.aO (bm (fun(k:Int)=>ap.func k)) x F):e7 (jw x) (aH [(0,ak x.x x.s),(1,F)] []) (fun N M=>∀(L:Nat),cz L (T1 (ak x.x x.s) ⟨x.x.b,1,none⟩ (fun K=>dx K/\dK (ba Tryz.f43 2 7) [ag (some ⟨x.x.b,1,none⟩),ad (K+1)] [ak x.x x.s] (fun J I=>Br (x.t==35) (RC x J F L N) (Gi [ag (cu x),ad 0] (aH [(0,ak J.x J.t),(1,F),(2050,af L (Ef x N) 35)] []) (fun e d=>Br (Bh e.p.L (e.p.i+e.a)) (RC x J F L N) (L4 x F (cE L) [(0,ak J.x J.t),(1,F),(2050,af L (Ef x N) 35)])))/\aT fun(H:kt)_=>Po H x->fZ [ag (cu x),ai ⟨#[40]⟩] [ak x.x H.t] (aH (uC x H F) [0]) (fun E D=>(∃(a:kt),HT a x/\(ag (cu x)=ag (cu x)/\ag (qq H)=ag (qq a)/\True)/\aE [(0,ak E.x E.s.ay),(1,F),(2,af H.c (tc x H) 35),(3,H.r.A)] (uC x a F))/\aT fun(C:kt)_=>HT C x->fJ (zu x) [ak x.x C.t] (aH (uC x C F) [0]) (fun A z=>true=true/\T1 (ak A.x A.s.ay) ⟨x.x.b,5,none⟩ (fun y=>T1 (ak A.x A.s.ay) ⟨x.x.b,6,none⟩ (fun w=>T1 (ak A.x A.s.ay) ⟨x.x.b,4,none⟩ (fun v=>dx v/\dK (ba Tryz.f43 12 10) [ag (some ⟨x.x.b,4,none⟩),ad (v+1)] [ak A.x A.s.ay] (fun u t=>dK (ba Tryz.f43 12 13) [ag (some ⟨x.x.b,5,none⟩),ad 0] [ak u.x u.t] (fun s r=>dK (ba Tryz.f43 12 16) [ag (some ⟨x.x.b,6,none⟩),ad 0] [ak s.x s.t] (fun q p=>true=true/\aw C.c 3/\cq x.n 30 [ag (cu x),aj true] [ak q.x q.t] (aH [(0,ak q.x q.t),(1,F),(2,af C.c (tc x C) 35),(3,C.r.A)] [0]) (fun o n=>∀(m:Nat),fz (ba Tryz.f43 13 5) [au C.r.a C.r.n C.r.cap,au (bI m) 1 1] [C.r.A] (aH [(0,ak o.x n.snd),(1,F),(2,af C.c (tc x C) 35),(3,C.r.A),(14040,af m (bN n) 3)] [3]) (fun l k=>aw C.c 3/\T1 (ak o.x n.snd) ⟨x.x.b,4,none⟩ (fun j=>nR j/\dK (ba Tryz.f43 14 12) [ag (some ⟨x.x.b,4,none⟩),ad (j-1)] [ak o.x n.snd] (fun i h=>dK (ba Tryz.f43 14 15) [ag (some ⟨x.x.b,5,none⟩),ad y] [ak i.x i.t] (fun g f=>dK (ba Tryz.f43 14 18) [ag (some ⟨x.x.b,6,none⟩),ad w] [ak g.x g.t] (fun e d=>cz C.c (c7 [ag (cu x),agg ⟨IK x C k⟩] [ak e.x e.t,k.A] (fun c b=>ar (bm fun(a:Int)=>ap.func a) x F (fq c) [(0,ak c.x (c.s.add c.n)),(1,F),(2,af C.c (IK x C k) 35),(3,bd),(14040,af m (bN n) 3)])))))))) (fun o c=>∀(b:Tm),ar (bm fun(a:Int)=>ap.func a) x F (cd c) (EF F C x))))))))) (fun A n=>∃(m:Nat),(aw C.c 3/\aS ((C.r.n:Int)>0) (fZ [ag (cu x),ai ⟨#[44]⟩] [ak A.x A.s] (aH [(0,ak A.x A.s),(1,F),(2,af C.c (tc x C) 35),(3,C.r.A)] [0]) (fun c b=>L5 x m F (ag (qq C)) [(0,ak c.x c.s.ay),(1,F),(2,af C.c (tc x C) 35),(3,C.r.A)]) (fun c b=>ar (bm fun(a:Int)=>ap.func a) x F (gg c) (EF F C x))) (L5 x m F (ag (qq C)) [(0,ak A.x A.s),(1,F),(2,af C.c (tc x C) 35),(3,C.r.A)]))/\aT fun(l:kt)_=>(O3 l x/\l.f=m)->e7 (jw x) (aH (uC x l F) []) (fun j i=>true=true/\aw l.c 3/\xU (jw x) [ak x.x l.t] (aH (uC x l F) [0]) (fun h g=>c7 [ag (cu x),agg ⟨[ad 3,ai (aB h.x.L h.x.fin h.s).text,float f64 0,au none 0 0,ad (cn j.L j.fin j.i).pos]⟩] [ak h.x h.s.ay,bd] (fun f e=>∀(d:Nat),fz (ba Tryz.f43 10 9) [au l.r.a l.r.n l.r.cap,au (bI d) 1 1] [l.r.A] (aH [(0,ak f.x (f.s.add f.n)),(1,F),(2,af l.c (tc x l) 35),(3,l.r.A),(999,bd),(11080,af d (oF f) 3)] [3]) (fun c b=>aw l.c 3/\∃(a:kt),HT a x/\(ag (cu x)=ag (cu x)/\ag (qq l)=ag (qq a)/\True)/\aE [(0,ak f.x (f.s.add f.n)),(1,F),(2,af l.c (IK x l b) 35),(3,b.A),(999,bd),(11080,af d (oF f) 3)] (uC x a F)/\a.f<C.f))) (fun h c=>∀(b:Tm),ar (bm fun(a:Int)=>ap.func a) x F (zo h) (EF F l x))))) (fun E b=>ar (bm fun(a:Int)=>ap.func a) x F (gg E) (EF F H x)))))):=by
 delta ib e7 cu jw T1 dx lg lh dK mn lN xU Ef Po qq tc uC L4 bI cE zo RC Gi ja fZ HT fJ zu cq kF fz bN nR kg kh c7 IK jQ fq cd EF O3 L5 gg oF dL aH ak aw cz ad ai aj ag au af bd aS ax aT;obtain⟨K,x,s,os,n,Y⟩:=x;obtain⟨ih,hK,hG,hp,S,yx,ho⟩:=hc;replace T:cA K x F:=T;replace ho:bs K x (n+1) (.func Y) s≠.out:=ho;dsimp only at ih hK hG hp S yx⊢;obtain⟨r,e0⟩:∃r,bs K x (n+1) (.func Y) s=r:=⟨_,rfl⟩;rw[e0]at ho;have hk:=e0;unfold bs at hk;rw[P]at hk;have hl:=hK.len;have S:s.i<x.L.length:=S;rw[m6,kK,lU]at hk;refine br kz (x.p s) hl (T.ls.da 0 1 aL aL rfl rfl) fun _ _ c=>?_
 repeat (refine⟨aq,?_⟩)
 refine⟨_,ef fun _=>rfl,mP (i:=s.i) (gR hG.i hl),gk rfl rfl rfl,rfl,⟨x,s,s.ay,1,_⟩,rfl,rfl,⟨fun _=>rfl,rfl,bg,rfl,rfl⟩,ao,fun _ _=>?_⟩;have g1:=hG.step S;have UL:=PG.hp hK s;have x0:s.i+1<=s.ay.i:=bT _;refine⟨?_,?_⟩
 ·refine kL (A:=(Y==35||nameV x.L s.ay 0)=true) (fun kx=>aG (fun Z=>kx ?_) (fun Z=>br Vv ⟨x.p s.ay,0⟩ ⟨hl,by have:=g1.i;show s.ay.i<=1048576;omega,bg⟩ (T.ls.da 0 1 aL aL rfl rfl) fun _ _=>aG (fun U=>kx ?_) (fun U=>?_))) (fun hx=>?_)
  ·rw[show(Y==35)=true from Z];rfl
  ·rw[show nameV x.L s.ay 0=true from U,mc]
  ·rw[show(Y==35)=false from Z,show nameV x.L s.ay 0=false from U,Bool.or_self,aM,ie]at hk;exact⟨⟨s.ay,.empty,[],dG,n,c⟩,⟨⟨g1.cast (dv _).symm,.nil rfl,bT _,x0,rfl,rfl,rfl⟩,rfl,hk.trans e0.symm⟩,aV,az [0,1,2050,999]⟩
  ·rw[hx,aU]at hk;refine br KL ⟨x,s.ay⟩ hl (T.ls.sub (bP 1)) ⟨fun _ q=>?_,fun _ q=>⟨.inr (_,_),⟨_,e0.trans (hk.symm.trans (Kw q))⟩,rfl,az [1]⟩⟩;rw[Kx q]at hk;have hi:s.ay.i<x.L.length:=ui (fin:=x.fin) (fun e=>by rw[e]at q;cases q);have R:=g1.step hi;exact⟨aq,⟨s.ay.ay,(aB x.L x.fin s.ay).text,[],dG,n,c⟩,⟨⟨R.cast (dv _).symm,.nil rfl,bT _,Nat.le_succ_of_le x0,rfl,rfl,rfl⟩,rfl,hk.trans e0.symm⟩,aV,az [0,1,2050,999]⟩
 clear hk;rintro⟨t,op,ks,X,f,c⟩ js ⟨⟨g,B,O,hi,Q,f2,f3⟩,W,hk⟩;have W:ks=[]:=W;subst W;dsimp only at g B O hi Q f2 f3 hk⊢;rw[e0,Nq]at hk;refine ma g hk (fun hk R=>?_);refine⟨⟨⟨t.ay,op,[],X,n,c⟩,⟨⟨R,B,bT _,Nat.le_succ_of_le hi,Q,f2,f3⟩,hk.trans e0.symm⟩,aV,az [0,1,2,3]⟩,?_⟩;clear hk g R B O hi Q f2 f3;rintro⟨t,op,ks,X,f,c⟩ js ⟨⟨g,B,O,hi,Q,f2,f3⟩,hk⟩;dsimp only at g B O hi Q f2 f3 hk⊢;rw[e0]at hk;obtain _|f:=f
 ·exact absurd hk (fun e=>ho (e.symm.trans (by rw[P];rfl)))
 replace O:f<=n:=Nat.le_of_succ_le O;rw[P,eO]at hk;have NA:X.n=ks.length:=by have:=B.len;rw[A_]at this;omega
 refine br jI ⟨x,t,rp⟩ ⟨hl,g.i⟩ (T.ls.sub (bP 1)) ⟨fun _ q=>?_,fun _ q=>?_⟩
 ·rw[kJ q,aU,ie,A2,lU,zN]at hk;have R:=g.is q;have b1:=g.f;have b2:=g.i;have b3:s.bw<=s.i:=hG.f.2;refine⟨rfl,_,ef fun _=>rfl,_,ef fun _=>rfl,?_⟩;refine⟨_,ef fun _=>rfl,⟨by show-9223372036854775808<=t.bw+1;omega,by show t.bw+1<=9223372036854775807;omega⟩,gk rfl rfl rfl,rfl,⟨x,t.ay,⟨t.ay.i,t.ay.nodes,t.ay.bw+1,t.ay.loops,t.ay.bn⟩,4,_⟩,rfl,rfl,⟨fun _=>rfl,rfl,bg,rfl,rfl⟩,ao,fun _ _=>?_⟩;refine⟨gk rfl rfl rfl,rfl,⟨x,_,⟨t.ay.i,t.ay.nodes,t.ay.bw+1,0,t.ay.bn⟩,5,_⟩,rfl,rfl,⟨fun _=>rfl,rfl,bg,rfl,rfl⟩,ao,fun _ _=>?_⟩;refine⟨gk rfl rfl rfl,rfl,⟨x,_,⟨t.ay.i,t.ay.nodes,t.ay.bw+1,0,0⟩,6,_⟩,rfl,rfl,⟨fun _=>rfl,rfl,bg,rfl,rfl⟩,ao,fun _ _=>?_⟩;have g3:PG x ⟨t.ay.i,t.ay.nodes,t.ay.bw+1,0,0⟩ (os++ks):=R.No (t:=⟨t.ay.i,t.ay.nodes,t.ay.bw+1,0,0⟩) rfl rfl ⟨by show 0<=t.bw+1;omega,by show t.bw+1<=((t.i+1:Nat):Int);omega⟩ ⟨cD 0,Int.natCast_nonneg _⟩ ⟨cD 0,Int.natCast_nonneg _⟩;refine⟨rfl,aq,?_⟩;refine ca g3 (ft hk ho) (fun b G hk g4 ig4 ng4 fg4 lg4 bg4 vg4=>?_) (cB:=ao) (ct:=ao) (cN:=ao);dsimp only[ap.sl,al.ay,al.add]at ig4 ng4 fg4 lg4 bg4 vg4;rw[lU,zN]at hk;intro lb;have V:=o4 g hl;refine kQ (ks:=ks) (k:=b) 14040 B ae (fun r2 U=>?_);refine⟨aq,?_⟩;have b4:=g4.i;refine⟨_,ef fun _=>rfl,⟨by show-9223372036854775808<=G.bw-1;omega,by show G.bw-1<=9223372036854775807;omega⟩,gk rfl rfl rfl,rfl,⟨x,G,⟨G.i,G.nodes,G.bw-1,G.loops,G.bn⟩,4,_⟩,rfl,rfl,⟨fun _=>rfl,rfl,bg,rfl,rfl⟩,ao,fun _ _=>?_⟩;refine⟨gk rfl rfl rfl,rfl,⟨x,_,⟨G.i,G.nodes,G.bw-1,t.ay.loops,G.bn⟩,5,_⟩,rfl,rfl,⟨fun _=>rfl,rfl,bg,rfl,rfl⟩,ao,fun _ _=>?_⟩;refine⟨gk rfl rfl rfl,rfl,⟨x,_,⟨G.i,G.nodes,G.bw-1,t.ay.loops,t.ay.bn⟩,6,_⟩,rfl,rfl,⟨fun _=>rfl,rfl,bg,rfl,rfl⟩,ao,fun _ _=>?_⟩
  repeat (refine⟨aq,?_⟩)
  have cap:=g4.cap hl;refine bO e_ ⟨x,⟨G.i,G.nodes,G.bw-1,t.ay.loops,t.ay.bn⟩,⟨Y,op,0,ks++[b],(aB x.L x.fin s).pos⟩,r2⟩ ⟨by show G.nodes.length<=4194304;omega,U⟩ fun _ _=>?_;exact ew (e0.trans hk.symm)
 ·rw[lj q,aM]at hk;have V:=o4 g hl;refine⟨f,⟨aq,?_⟩,?_⟩
  ·refine bo (fun Z=>?_) (fun Z=>?_)
   ·rw[bv (show ks.length>0 by omega),aU]at hk;rw[eO]at hk;refine ma g hk (fun hk R=>?_);exact⟨⟨t.ay,op,ks,X,f,c⟩,⟨⟨⟨R,B,O,Nat.le_succ_of_le hi,Q,f2,f3⟩,hk.trans e0.symm⟩,rfl⟩,aV,az [0,1,2,3]⟩
   ·rw[bF (show ¬ks.length>0 by omega),aM,eO,ie]at hk;exact⟨⟨t,op,ks,X,f,c⟩,⟨⟨⟨g,B,O,hi,Q,f2,f3⟩,hk.trans e0.symm⟩,rfl⟩,aV,az [0,1,2,3]⟩
  clear hk q V O hi Q f2 f3 g NA B;rintro⟨t,op,ks,X,f',c⟩ js ⟨⟨⟨g,B,O,hi,Q,f2,f3⟩,hk⟩,e1⟩;have e1:f'=f:=e1;subst e1;dsimp only at g B O hi Q f2 f3 hk⊢;rw[e0,Nr,eO,m6,eO]at hk;refine br kz (x.p t) hl (T.ls.da 0 1 aL aL rfl rfl) fun _ _=>?_;refine⟨rfl,aq,KL,rfl,⟨x,t⟩,rfl,rfl,hl,T.ls.sub (bP 1),fun _ q=>?_,fun _ q=>fun _=>⟨.inr (_,_),⟨_,e0.trans (hk.symm.trans (Kw q))⟩,rfl,az [1]⟩⟩;rw[Kx q,eO,xi]at hk;have UI:t.i<x.L.length:=ui (fin:=x.fin) (fun e=>by rw[e]at q;cases q);have R:=g.step UI;have Ny:=g.nd;have g3:=PG.node (n:=⟨3,(aB x.L x.fin t).text,0,[],(aB x.L x.fin t).pos⟩) (R.cast (dv _).symm) (PG.hp hK t) (by show t.nodes.length+1<=2*(t.i+1);omega);refine bO e_ ⟨x,t.ay,⟨3,(aB x.L x.fin t).text,0,[],(aB x.L x.fin t).pos⟩,dG⟩ ⟨by have:=R.cap hl;dsimp only[al.ay,al.add]at*;omega,.nil rfl⟩ fun _ _=>?_;intro lb;have V:=o4 g hl;refine kQ (ks:=ks) (k:=(t.nodes.length:Int)) 11080 B ae (fun r2 U=>?_);exact⟨aq,⟨_,op,_,r2,_,c⟩,⟨⟨g3.cast (jj _ _ _),U,O,Nat.le_succ_of_le hi,Q,f2,f3⟩,hk.trans e0.symm⟩,aV,az [0,1,2,3],io _⟩
theorem ahs:aC 43 (bm (fun(k:Int)=>ap.func k)):=fo 103 Tryz.func43 ahr [] ahp aho ahq [] aht
end
end Go.Proofs.YtdkchodgklpomaaGreatDoor
