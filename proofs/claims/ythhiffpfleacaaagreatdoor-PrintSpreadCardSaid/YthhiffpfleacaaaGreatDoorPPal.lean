/- A part of the proof that pennantlaw07.PrintSpread answers true at every input. -/
import Derived.Test.YthhiffpfleacaaaGreatDoorPPak
set_option linter.all false
namespace Go.Proofs.YthhiffpfleacaaaGreatDoor
set_option maxRecDepth 100000
open Go.Value (int slice string bool pointer agg tuple func float iface nilIface)
open Go.IntKind (i64 u8 u64 i32 u32 u16 i8 i16)
open Go.FloatKind (f64)
open Go.Ending (returned panicked)
open Go.Proofs.Tryz
section
open Go Go.ChangeShapes Go.WideShapes Go.ChangeAt Go.RowKit Go.ChangeMaps
def aoD(os:Os)(a:os.Started)(H:Type)(h_:TypeId×aD->H):
  ReturnsInHanded {} Tryz.checked os 3 .any (λw args=>(Rows.printSpreadSpec.pre h_ prog f3 [] false w args/\laidMetH prog Rows.printSpreadRow.laid w)/\sizedMet h_ prog f3 (OpenSpec.ofChange Rows.printSpreadSpec) false w args)
   (Rows.printSpreadSpec.post h_ prog f3 false true false false):=by
 refine anl (C:=Tryz.checked) (X:=λw=>laidMetH prog Rows.printSpreadRow.laid w) (λ_ _ A h=>h.of_heap A) aov a bg func3
  (ChangeSpec.witness_shaped (enc:=h_) (C:=Tryz.checked) (os:=os) (X:=λw _=>laidMetH prog Rows.printSpreadRow.laid w) false (World.laidAll prog os Rows.printSpreadRow.laid) #[.string .empty] 8 (World.laidAll_os _ _ _)
   (World.shaped_of_ZipB bg bg) bg bg bg
   (by rw[MakeChecks.laidMetH_plain _ _ _ bg];exact laidMet_laidAll _ bg bg)) ?_
 intro W g args r G k i o x D n;have m:=o;obtain⟨p,q,l,y,rfl,_,_⟩:=o;obtain⟨rfl,rfl⟩:=trodVars_none y;have f:f3.params=#[9]:=bg;rw[MakeChecks.laidMetH_plain _ _ _ bg]at n;have u:=ahY n x;have l:DataW.TrodAll h_ prog W 0 (λ_=>true) true [9] args.toList r p:=by{have:=l;rw[f]at this;exact this};have B:∀(j:Nat)t v,([9]:List TypeId)[j]?=some t->args[j]?=some v->Value.okWide prog W .any g t v:=λj t v h=>i j t v (by rw[f,<-Array.getElem?_toList];exact h);obtain⟨I,F,rfl,rfl,E⟩:=trodAll_one l;obtain⟨s,rfl,rfl,rfl,z⟩:=open_string bg (B 0 _ _ rfl rfl) E;refine(entry amx ⟨pq,s⟩ W rfl akR u).mono ?_;rintro e J ⟨⟨_,_,rfl⟩,U⟩;exact⟨_,rfl,alU aor m rfl rfl U (tb:=4) bg bg bg⟩
theorem aoF:Rows.PrintSpreadSaid:=
 OpenClaim.holds_of_wide 3 f3 rfl rfl rfl rfl rfl rfl rfl ⟨rfl,rfl,rfl,rfl,rfl⟩ rfl rfl rfl rfl rfl (by kernel_rfl) func3 (by kernel_rfl)
  (of_decide_eq_true (by kernel_rfl)) (by unfold Func.isWrapper;first| (rw[if_pos (by decide+kernel)];kernel_rfl)| (rw[if_neg (by decide+kernel)];exact⟨rfl,rfl⟩))
  (λc a H b _=>aoD c a H b)
theorem spread_holds:Rows.PrintSpreadCardSaid:=
 Claim7.holds_tied_plain_at .later [] [.data,.data,.widerDeep,.widerDeep,.data,.data,.data,.data,.data,.data,.sentinel,.sentinel,.widerDeep,.widerDeep,.widerDeep,.pinned,.pinned,.pinned] true (true,"7d941c416d66f350167ad8bb1b0186acb4acdf2c0041680f0fa80e6c967ac6e4") true
  aoF (λ_ h=>by cases h) bg (λ_ h=>by cases h) printSpread_row_tie rfl ⟨rfl,rfl⟩ bg rfl
  (λf e g c=>by
   obtain rfl:f=3:=Option.some.inj ((show prog.funcNamed "pennant/pennantlaw07.PrintSpread"=some 3 by kernel_rfl).symm.trans g) |>.symm;obtain rfl:e=f3:=(Option.some.inj (func3.symm.trans c)).symm;have b:f3.params=#[9]:=by kernel_rfl
   exact⟨bg,λj t d=>by
    rw[b]at d;have i:t∈[9]:=by simpa using Array.mem_of_getElem? d
    have a:([9].all λu=> !prog.wantsStandIn u)=true:=by kernel_rfl
    exact(show prog.wantsStandIn t=false by simpa using List.all_eq_true.1 a t i)⟩)
  bg
end
end Go.Proofs.YthhiffpfleacaaaGreatDoor
#print axioms Go.Proofs.YthhiffpfleacaaaGreatDoor.spread_holds
