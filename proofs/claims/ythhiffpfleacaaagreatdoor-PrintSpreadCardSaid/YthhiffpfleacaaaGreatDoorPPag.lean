/- A part of the proof that pennantlaw07.PrintSpread answers true at every input. -/
import Derived.Test.YthhiffpfleacaaaGreatDoorPPaf
set_option linter.all false
namespace Go.Proofs.YthhiffpfleacaaaGreatDoor
set_option maxRecDepth 100000
open Go.Value (int slice string bool pointer agg tuple func float iface nilIface)
open Go.IntKind (i64 u8 u64 i32 u32 u16 i8 i16)
open Go.FloatKind (f64)
open Go.Ending (returned panicked)
open Go.Proofs.Tryz
section
section
variable{ae:Int}{L:List a8}{aO:Nat->ah}{wide:ah->ah}
def aj.cB(ae:Int):aj->Prop
 | .dv p| .d5 p| .choose p=>0<=p/\p<=ae
 | .simple x=>0<=x.au/\x.au<=ae
 |_=>True
def fS(L:List a8)(ae:Int)(aO:Nat->ah)(wide:ah->ah)(f:Nat):Prop:=
 ∀(tag:aj)(s:ap)(os:aM),tag.cB ae->bM ae s (os++tag.dW)->WP ae (P L ae aO wide f tag) s (d_ ae os tag)
variable{os:aM}{f:Nat}{s s0:ap}{tag:aj}
theorem fS.one(c:fS L ae aO wide f)(tag:aj)(b:tag.BP=false)(a:bM ae s0 (os++tag.dW)){Q:Int->ap->Prop}(k:∀k t,bM ae t (os++[k])->Q k t)(e:s.a=s0.a:=by rfl)(hp:tag.cB ae:=by trivial):WP ae (Go.Proofs.YthhiffpfleacaaaGreatDoor.one (P L ae aO wide f tag)) s Q:=
 WP.one b (c tag s os hp (a.same e)) k
theorem fS.run(c:fS L ae aO wide f)(tag:aj)(b:bM ae s0 (os++tag.dW)){Q:aM->ap->Prop}(k:∀a t,d_ ae os tag a t->Q a t)(e:s.a=s0.a:=by rfl)(hp:tag.cB ae:=by trivial):WP ae (P L ae aO wide f tag) s Q:=
 (c tag s os hp (b.same e)).mono k
theorem cZ(h:bM ae s os):bM ae s (os++[]):=h.cast (dQ _).symm
theorem bM.mv{t:ap}{a:aM}(h:bM ae s os)(e:os=a)(b:t.a=s.a:=by rfl):bM ae t a:=(h.same b).cast e
theorem fS.dI(d:fS L ae aO wide f)(tag:aj){a:aj}(c:tag.BP=a.BP)(b:bM ae s0 (os++tag.dW))(e:s.a=s0.a:=by rfl)(hp:tag.cB ae:=by trivial):WP ae (P L ae aO wide f tag) s (d_ ae os a):=
 (d tag s os hp (b.same e)).mono λi t h=>⟨h.1,λg=>h.2 (c.trans g)⟩
theorem CN{k:Int}(h:bM ae s0 (os++[k]))(e:s.a=s0.a:=by rfl):d_ ae os tag [k] s:=⟨h.same e,λ_=>⟨k,rfl⟩⟩
theorem Ak{ks:aM}(a:tag.BP=true)(h:bM ae s0 (os++ks))(e:s.a=s0.a:=by rfl):d_ ae os tag ks s:=⟨h.same e,λg=>by rw[a]at g;cases g⟩
theorem kj{a:aM}{x:aR}(h:bM ae s0 a)(b:a=os++x.b)(hp:0<=x.au/\x.au<=ae)(e:s.a=s0.a:=by rfl):WP ae (cj x) s (d_ ae os tag):=WP.ga (h.mv b e) hp
theorem ac_(c:gr L ae)(a:fS L ae aO wide f)(b:bM ae s os):WP ae (P L ae aO wide (f+1) .bf) s (d_ ae os .bf):=by
 refine WP.bind (a.one .cond rfl (cZ b) λk t h=>WP.bind (WP.cE (WP.bif (λ_=>⟨h,λ_=>⟨_,rfl⟩⟩) (λ_=>?_))));refine WP.bind (WP.oS (h.uj X) (WP.bind (WP.step (WP.bind (a.one .bf rfl (cZ h) λr u g=>WP.bind (WP.fz ?_))))));exact WP.ga (g.cast X) (g.uj X)
theorem ac9(j:gr L ae)(d:fS L ae aO wide f)(i:bM ae s os):WP ae (P L ae aO wide (f+1) .cond) s (d_ ae os .cond):=by
 refine WP.bind (d.one (.level 0) rfl (cZ i) λc t h=>WP.bind (WP.cK (λ_=>WP.bif (λe=>nomatch e) (λ_=>?_)) (λ_=>WP.bif (λ_=>⟨h,λ_=>⟨_,rfl⟩⟩) (λe=>nomatch e))));refine WP.bind (d.one .bf rfl (cZ h) λa u g=>WP.bind (WP.cC j (WP.bind (d.one .bf rfl (cZ g) λb v k=>WP.bind (WP.fz ?_)))));exact WP.ga (k.cast X) (k.uj X)
theorem ade(d:gr L ae)(a:fS L ae aO wide f)(n:Nat)(b:bM ae s os):WP ae (P L ae aO wide (f+1) (.level n)) s (d_ ae os (.level n)):=by
 refine WP.bif (λ_=>a.run .unary (cZ b) λc t h=>h) (λ_=>WP.bind (a.one (.level (n+1)) rfl (cZ b) λk t h=>a.run (.ig n k) h λc u g=>g))
theorem adf(c:gr L ae)(b:fS L ae aO wide f)(n:Nat)(left:Int)(a:bM ae s (os++[left])):WP ae (P L ae aO wide (f+1) (.ig n left)) s (d_ ae os (.ig n left)):=by
 refine WP.bind (WP.cE (WP.bif (λ_=>⟨a,λ_=>⟨_,rfl⟩⟩) (λ_=>WP.bind (WP.step (WP.bind (b.one (.level (n+1)) rfl (cZ a) λr t h=>WP.bind (WP.fz (WP.bind (WP.node ?_)))))))));refine b.run (.ig n _) (bM.node ?_ ?_) λd u g=>g;grind;exact h.uj X
theorem alS(h:bM ae s os)(k:Int):0<=dG s k/\dG s k<=max ae 0:=by
 unfold dG;cases a:s.a[k.toNat]? with
 |none=>exact⟨cH 0,Int.le_max_right _ _⟩
 |some x=>
  have:=h.au x (iz a);grind
theorem adt(c:gr L ae)(b:fS L ae aO wide f)(a:bM ae s os):WP ae (P L ae aO wide (f+1) .unary) s (d_ ae os .unary):=by
 refine WP.bind (WP.cE (WP.bif (λ_=>b.dI .eo rfl (cZ a)) (λ_=>WP.bif (λ_=>?_) (λ_=>WP.bif (λ_=>?_) (λ_=>b.dI .eo rfl (cZ a))))));exact WP.bind (WP.step (WP.bind (b.one .unary rfl (cZ a) λk t h=>WP.bind (WP.bif (λ_=>WP.oS (h.uj X) (kj h rfl (kN c _))) (λ_=>WP.ret (kj h rfl (kN c _)))))));exact WP.bind (WP.step (WP.bind (b.one .unary rfl (cZ a) λk t h=>WP.bind (WP.oS (h.uj X) (kj h rfl (kN c _))))))
theorem ac3(b:fS L ae aO wide f)(a:bM ae s os):WP ae (P L ae aO wide (f+1) .eo) s (d_ ae os .eo):=by
 exact WP.bind (b.one .suffix rfl (cZ a) λk t h=>WP.bind (WP.cE (WP.bif (λ_=>WP.ret (CN h)) (λ_=>WP.bind (WP.oS (h.uj X) (WP.bind (WP.step (WP.bind (WP.fz (kj h rfl (h.uj X)))))))))))
theorem adq(a:fS L ae aO wide f)(b:bM ae s os):WP ae (P L ae aO wide (f+1) .suffix) s (d_ ae os .suffix):=by
 exact WP.bind (a.one .dL rfl (cZ b) λk t h=>a.dI (.eX k) rfl h)
theorem adl(d:gr L ae)(c:fS L ae aO wide f)(k:Int)(b:bM ae s (os++[k])):WP ae (P L ae aO wide (f+1) (.eX k)) s (d_ ae os (.eX k)):=by
 have hp:=b.uj (k:=k) X;refine WP.bind (WP.cK (λ_=>WP.bif (λ_=>?_) (λe=>nomatch e)) (λ_=>WP.bif (λe=>nomatch e) (λ_=>WP.bind (WP.cK (λ_=>WP.bif (λ_=>?_) (λe=>nomatch e)) (λ_=>WP.bif (λe=>nomatch e) (λ_=>WP.bind (WP.cK (λ_=>WP.bif (λ_=>?_) (λe=>nomatch e)) (λ_=>WP.bif (λe=>nomatch e) (λ_=>WP.ret (CN b))))))))));have a:∀{t:ap}{x:aR},t.a=s.a->x.b=[k]->x.au=dG s k->WP ae (dX x>>=λm=>P L ae aO wide f (.eX m)) t (d_ ae os (.eX k)):=λ{t x}e1 g i=>WP.bind (WP.node (c.dI (.eX _) rfl (bM.node (b.mv (by rw[g]) e1) O)));exact WP.bind (WP.cE (WP.bind (WP.bif (λ_=>WP.e_ d) (λ_=>WP.ret (WP.bind (WP.step (WP.bind (WP.fz (a rfl rfl rfl)))))))));refine WP.bind (c.one .bf rfl (cZ b) λe t h=>WP.bind (WP.cC d (WP.bind (WP.fz (WP.bind (WP.node (c.dI (.eX _) rfl (bM.node ?_ ?_))))))));exact h.mv X;exact h.uj (k:=k) X;refine WP.bind (c.run (.eV [k]) b λj t h=>WP.bind (WP.fz (WP.bind (WP.node (c.dI (.eX _) rfl (bM.node ?_ ?_))))));exact h.1;have:=alS h.1 k;grind
theorem ac6(g:gr L ae)(d:fS L ae aO wide f)(a:aM)(c:bM ae s (os++a)):WP ae (P L ae aO wide (f+1) (.eV a)) s (d_ ae os (.eV a)):=by
 refine WP.bind (WP.cK (λ_=>WP.bif (λ_=>WP.ret (Ak rfl c)) (λe=>nomatch e)) (λ_=>WP.bif (λe=>nomatch e) (λ_=>?_)));have b:∀{t:ap},t.a=s.a->WP ae (one (P L ae aO wide f .bf)>>=λe=>P L ae aO wide f (.eV (a++[e]))) t (d_ ae os (.eV a)):=λ{t}e1=>WP.bind (d.one .bf rfl (cZ c) (λk u h=>d.dI (.eV (a++[k])) rfl (h.mv (by simp[aj.dW]))) e1);exact WP.bind (WP.bif (λ_=>WP.cC g (b rfl)) (λ_=>WP.ret (b rfl)))
theorem ac2(d:gr L ae)(b:fS L ae aO wide f)(a:aM)(c:bM ae s (os++a)):WP ae (P L ae aO wide (f+1) (.de a)) s (d_ ae os (.de a)):=by
 refine WP.bind (WP.cK (λ_=>WP.bif (λ_=>WP.ret (Ak rfl c)) (λe=>nomatch e)) (λ_=>WP.bif (λe=>nomatch e) (λ_=>WP.bind (b.one .bf rfl (cZ c) λk t h=>WP.bind (WP.t_ (WP.bind (WP.bif (λ_=>WP.cC d (b.dI (.de (a++[k])) rfl (h.cast ?_))) (λ_=>WP.ret (b.dI (.de (a++[k])) rfl (h.cast ?_))))))))));simp[aj.dW];simp[aj.dW]
theorem ac5(c:fS L ae aO wide f)(a:aM)(body:Bool)(b:bM ae s (os++a)):WP ae (P L ae aO wide (f+1) (.gQ a body)) s (d_ ae os (.gQ a body)):=by
 refine WP.bind (WP.cK (λ_=>WP.bif (λ_=>WP.ret (Ak rfl b)) (λe=>nomatch e)) (λ_=>WP.bif (λe=>nomatch e) (λ_=>WP.bind (c.one (.cw body) rfl (cZ b) λk t h=>c.dI (.gQ (a++[k]) body) rfl (h.cast ?_)))));simp[aj.dW]
theorem adi(b:gr L ae)(c:fS L ae aO wide f)(a:aM)(d:bM ae s (os++a)):WP ae (P L ae aO wide (f+1) (.dr a)) s (d_ ae os (.dr a)):=by
 refine WP.bind (WP.cK (λ_=>WP.bif (λ_=>WP.ret (Ak rfl d)) (λe=>nomatch e)) (λ_=>WP.bif (λe=>nomatch e) (λ_=>WP.bind (WP.key b d λk t h=>WP.bind (WP.cC b (WP.bind (c.one .bf rfl (cZ h) λe u g=>WP.bind (WP.t_ (WP.bind (WP.bif (λ_=>WP.cC b (c.dI (.dr (a++[k]++[e])) rfl (g.cast ?_))) (λ_=>WP.ret (c.dI (.dr (a++[k]++[e])) rfl (g.cast ?_)))))))))))));simp[aj.dW];simp[aj.dW]
theorem adm(b:gr L ae)(c:fS L ae aO wide f)(a:bM ae s os):WP ae (P L ae aO wide (f+1) .dL) s (d_ ae os .dL):=by
 have d:∀{t:ap}{x:aR},t.a=s.a->x.b=[]->x.au=(I L ae s).au->WP ae (cj x) t (d_ ae os .dL):=λ{t x}e1 j g=>kj a (by simp[*]) (by rw[g];exact kN b s) e1;refine WP.bind (WP.cE (WP.bif (λ_=>WP.bind (WP.step (d rfl rfl rfl))) (λ_=>WP.bif (λ_=>WP.bind (WP.step (d rfl rfl rfl))) (λ_=>WP.bif (λ_=>WP.bind (WP.step (d rfl rfl rfl))) (λ_=>WP.bind (WP.get (WP.bif (λ_=>WP.bind (WP.step (d rfl rfl rfl))) (λ_=>WP.bif (λ_=>c.dI (.func 7) rfl (cZ a)) (λ_=>?_)))))))));refine WP.bind (WP.cK (λ_=>WP.bif (λ_=>?_) (λe=>nomatch e)) (λ_=>WP.bif (λe=>nomatch e) (λ_=>WP.bind (WP.cK (λ_=>WP.bif (λ_=>?_) (λe=>nomatch e)) (λ_=>WP.bif (λe=>nomatch e) (λ_=>WP.bind (WP.cK (λ_=>WP.bif (λ_=>?_) (λe=>nomatch e)) (λ_=>WP.bif (λe=>nomatch e) (λ_=>WP.e_ b)))))))));exact WP.bind (c.one .bf rfl (cZ a) λk t h=>WP.bind (WP.cC b (WP.ret (CN h))));exact WP.bind (c.run (.de []) (cZ a) λi t h=>kj h.1 rfl (kN b s));exact WP.bind (c.run (.dr []) (cZ a) λi t h=>kj h.1 rfl (kN b s))
theorem adj(c:gr L ae)(g:fS L ae aO wide f)(a:aM)(d:bM ae s (os++a)):WP ae (P L ae aO wide (f+1) (.ed a)) s (d_ ae os (.ed a)):=by
 refine WP.bind (WP.cK (λ_=>WP.bif (λ_=>WP.ret (Ak rfl d)) (λe=>nomatch e)) (λ_=>WP.bif (λe=>nomatch e) (λ_=>?_)));have b:∀{t:ap},t.a=s.a->WP ae (gk L ae>>=λx=>iM L ae>>=λw=>dX ⟨3,w,0,[],x.au⟩>>=λk=>P L ae aO wide f (.ed (a++[k]))) t (d_ ae os (.ed a)):=λ{t}e1=>by{refine WP.bind (WP.cE (WP.bind (WP.word c (WP.bind (WP.node (g.dI (.ed _) rfl (bM.cast (bM.node (os:=os++a) (d.mv (dQ _).symm e1) (kN c t)) ?_)))))));simp[aj.dW]};exact WP.bind (WP.bif (λ_=>WP.cC c (b rfl)) (λ_=>WP.ret (b rfl)))
theorem ac4(a:gr L ae)(c:fS L ae aO wide f)(body:Bool)(b:bM ae s os):WP ae (P L ae aO wide (f+1) (.block body)) s (d_ ae os (.block body)):=by
 exact WP.bind (WP.cE (WP.bind (WP.cC a (WP.bind (c.run (.gQ [] body) (cZ b) λd t h=>kj h.1 rfl (kN a s))))))
theorem adb(a:gr L ae)(c:fS L ae aO wide f)(ak:Int)(d:bM ae s os):WP ae (P L ae aO wide (f+1) (.func ak)) s (d_ ae os (.func ak)):=by
 refine WP.bind (WP.cE (WP.bind (WP.step (WP.bind (WP.get (WP.bind (WP.bif (λ_=>WP.word a ?_) (λ_=>WP.ret ?_))))))));refine WP.bind (WP.cC a (WP.bind (c.run (.ed []) (cZ d) λe t h=>WP.bind (WP.get (WP.bind (WP.set (WP.bind (c.one (.block true) rfl (cZ h.1) λb u g=>WP.bind (WP.get (WP.bind (WP.set (kj g ?_ (kN a s)))))))))))));simp;refine WP.bind (WP.cC a (WP.bind (c.run (.ed []) (cZ d) λe t h=>WP.bind (WP.get (WP.bind (WP.set (WP.bind (c.one (.block true) rfl (cZ h.1) λb u g=>WP.bind (WP.get (WP.bind (WP.set (kj g ?_ (kN a s)))))))))))));simp
theorem adk(a:gr L ae)(c:fS L ae aO wide f)(b:bM ae s os):WP ae (P L ae aO wide (f+1) .paren) s (d_ ae os .paren):=by
 exact WP.bind (WP.cC a (WP.bind (c.one .bf rfl (cZ b) λk t h=>WP.bind (WP.cC a (WP.ret (CN h))))))
theorem adv(b:gr L ae)(c:fS L ae aO wide f)(a:bM ae s os):WP ae (P L ae aO wide (f+1) .vars) s (d_ ae os .vars):=by
 exact WP.bind (WP.cE (WP.bind (WP.step (WP.bind (c.run (.eO []) (cZ a) λd t h=>kj h.1 rfl (kN b s))))))
theorem adu(i:gr L ae)(j:fS L ae aO wide f)(a:aM)(g:bM ae s (os++a)):WP ae (P L ae aO wide (f+1) (.eO a)) s (d_ ae os (.eO a)):=by
 have b:∀{t:ap}{w:ah}{c:aM},bM ae t (os++a++c)->WP ae (dX ⟨22,w,0,c,(I L ae s).au⟩>>=λk=>cT L qV>>=λh=>bif !h then ret (a++[k]) else P L ae aO wide f (.eO (a++[k]))) t (d_ ae os (.eO a)):=λ{t w c}h=>by{have d:=bM.node (x:=⟨22,w,0,c,(I L ae s).au⟩) h (kN i s);refine WP.bind (WP.node (WP.bind (WP.cK (λ_=>WP.bif (λe=>nomatch e) (λ_=>j.dI (.eO _) rfl (d.cast ?_))) (λ_=>WP.bif (λ_=>WP.ret (Ak rfl (d.cast ?_))) (λe=>nomatch e)))));simp[aj.dW];simp};refine WP.bind (WP.cE (WP.bind (WP.word i (WP.bind (WP.cK (λ_=>WP.bind (WP.bif (λ_=>j.run .bf (cZ g) λc t h=>b h.1) (λe=>nomatch e))) (λ_=>WP.bind (WP.bif (λe=>nomatch e) (λ_=>WP.ret (b (g.mv (dQ _).symm))))))))))
theorem adg(b:fS L ae aO wide f)(a:bM ae s os):WP ae (P L ae aO wide (f+1) .loop) s (d_ ae os .loop):=by
 exact WP.bind (WP.get (WP.bind (WP.set (WP.bind (b.one (.cw false) rfl (cZ a) λk t h=>WP.bind (WP.get (WP.bind (WP.set (WP.ret (CN h))))))))))
theorem ac8(d:gr L ae)(a:fS L ae aO wide f)(au:Int)(hp:0<=au/\au<=ae)(b:bM ae s os):WP ae (P L ae aO wide (f+1) (.choose au)) s (d_ ae os (.choose au)):=by
 exact WP.bind (a.one .paren rfl (cZ b) λc t h=>WP.bind (WP.cC d (WP.bind (WP.get (WP.bind (WP.set (WP.bind (a.run (.fk [c] false) h λe u g=>WP.bind (WP.get (WP.bind (WP.set (kj g.1 rfl hp))))))))))))
theorem ac7(c:fS L ae aO wide f)(a:aM)(b:bM ae s (os++a)):WP ae (P L ae aO wide (f+1) (.fM a)) s (d_ ae os (.fM a)):=by
 refine WP.bind (WP.get (WP.bif (λ_=>WP.bind (c.one (.cw false) rfl (cZ b) λk t h=>c.dI (.fM (a++[k])) rfl (h.cast ?_))) (λ_=>WP.ret (Ak rfl b))));simp[aj.dW]
theorem adn(d:gr L ae)(c:fS L ae aO wide f)(a:aM)(b:bM ae s (os++a)):WP ae (P L ae aO wide (f+1) (.prog a)) s (d_ ae os (.prog a)):=by
 refine WP.bind (WP.get (WP.bif (λ_=>WP.bind (c.one (.cw true) rfl (cZ b) λk t h=>c.dI (.prog (a++[k])) rfl (h.cast ?_))) (λ_=>kj b rfl ⟨cH 0,d.f0⟩)));simp[aj.dW]
theorem ada(i:gr L ae)(j:fS L ae aO wide f)(au:Int)(hp:0<=au/\au<=ae)(l:bM ae s os):WP ae (P L ae aO wide (f+1) (.dv au)) s (d_ ae os (.dv au)):=by
 refine WP.bind (WP.cC i (WP.bind (WP.get ?_)));dsimp only;refine WP.bif (λ_=>?_) (λ_=>?_);refine WP.bind (WP.set (WP.bind (j.one .bf rfl (cZ l) λe t h=>WP.bind (WP.cC i (WP.bind (j.one .loop rfl (cZ h) λb u g=>kj g ?_ hp))))));simp;have key:∀{t:ap}{os:aM}{B:Bool},bM ae t os->WP ae (bif B then kF L ae else one (P L ae aO wide f .bf)) t λa u=>bM ae u (os++[a]):=λ{t os B}h=>WP.bif (λ_=>WP.empty i h λk u g=>g) (λ_=>j.one .bf rfl (cZ h) λk u g=>g);refine WP.bind (WP.mono (Q:=λa t=>bM ae t (os++[a])) ?_ λa t h=>?_);refine WP.bif (λ_=>j.one .vars rfl (cZ l) λk t h=>h) (λ_=>WP.bif (λ_=>WP.empty i (l.mv rfl) λk t h=>h) (λ_=>WP.bind (WP.cE (WP.bind (j.one .bf rfl (cZ l) λe t h=>WP.node ?_)))));exact bM.node (x:=⟨20,.empty,0,[e],_⟩) h (kN i _);refine WP.bind (WP.cC i (WP.bind (WP.t_ (WP.bind ((key (h.mv rfl)).mono λc u g=>WP.bind (WP.cC i (WP.bind (WP.t_ (WP.bind ((key (g.mv rfl)).mono λd v k=>WP.bind (WP.cC i (WP.bind (j.one .loop rfl (cZ k) λb w q=>kj q ?_ hp)))))))))))));simp
theorem ads(d:gr L ae)(i:fS L ae aO wide f)(au:Int)(hp:0<=au/\au<=ae)(n:bM ae s os):WP ae (P L ae aO wide (f+1) (.d5 au)) s (d_ ae os (.d5 au)):=by
 have a:∀{t:ap}{b:Int}{j:aM}{m:ah}{g:Bool},bM ae t (os++[b]++j)->WP ae (cT L rM>>=λh=>(bif h then P L ae aO wide f (.block false) else ret [])>>=λl=>cj ⟨34-2,m,bif g then (bif h then wm else iI) else uL,[b]++j++l,au⟩) t (d_ ae os (.d5 au)):=λ{t b j m g}h=>by{refine WP.bind (WP.cK (λ_=>WP.bind (WP.bif (λ_=>i.run (.block false) (cZ h) λl u k=>kj k.1 ?_ hp) (λe=>nomatch e))) (λ_=>WP.bind (WP.bif (λe=>nomatch e) (λ_=>WP.ret (kj h ?_ hp)))));all_goals grind};refine WP.bind (i.one (.block false) rfl (cZ n) λb t h=>WP.bind (WP.cK (λ_=>WP.bind (WP.bif (λ_=>?_) (λe=>nomatch e))) (λ_=>WP.bind (WP.bif (λe=>nomatch e) (λ_=>WP.ret ?_)))));refine WP.bind (WP.cC d (WP.bind (WP.word d (WP.bind (WP.cC d (WP.bind (i.one (.block false) rfl (cZ h) λc u g=>WP.ret ?_)))))));exact WP.bind (WP.get (WP.bind (WP.bif (λ_=>WP.e_ d) (λ_=>WP.ret (a g)))));exact WP.bind (WP.get (WP.bind (WP.bif (λ_=>WP.e_ d) (λ_=>WP.ret (a (h.mv (dQ _).symm))))))
theorem adr(i:gr L ae)(j:fS L ae aO wide f)(a:aM)(seen:Bool)(d:bM ae s (os++a)):WP ae (P L ae aO wide (f+1) (.fk a seen)) s (d_ ae os (.fk a seen)):=by
 have b:∀{t:ap}{c:aM}{g:Bool},bM ae t (os++a++c)->WP ae (cu L ae colon>>=λ_=>P L ae aO wide f (.fM c)>>=λall=>dX ⟨34,.empty,bif g then 0 else iI,all,(I L ae s).au⟩>>=λk=>P L ae aO wide f (.fk (a++[k]) (bif g then seen else true))) t (d_ ae os (.fk a seen)):=λ{t c g}h=>by{refine WP.bind (WP.cC i (WP.bind (j.run (.fM c) h λall u k=>WP.bind (WP.node (j.dI (.fk _ _) rfl (bM.cast (bM.node (os:=os++a) (x:=⟨34,.empty,bif g then 0 else iI,all,(I L ae s).au⟩) k.1 (kN i s)) ?_))))));simp[aj.dW]};refine WP.bind (WP.cK (λ_=>WP.bif (λ_=>WP.ret (Ak rfl d)) (λe=>nomatch e)) (λ_=>WP.bif (λe=>nomatch e) (λ_=>WP.bind (WP.cE (WP.bind (WP.cK (λ_=>WP.bind (WP.bif (λ_=>j.run .bf (cZ d) λc t h=>b h.1) (λe=>nomatch e))) (λ_=>WP.bind (WP.bif (λe=>nomatch e) (λ_=>WP.bind (WP.t_ (WP.bif (λ_=>WP.bind (WP.step (WP.ret (b (d.mv (dQ _).symm))))) (λ_=>WP.e_ i))))))))))))
theorem ado(b:gr L ae)(g:fS L ae aO wide f)(x:a8)(hp:0<=x.au/\x.au<=ae)(d:bM ae s os):WP ae (P L ae aO wide (f+1) (.simple x)) s (d_ ae os (.simple x)):=by
 refine WP.bind (WP.get (WP.bind ((WP.bif (λ_=>WP.ret rfl) (λ_=>WP.bif (λ_=>WP.ret rfl) (λ_=>WP.bif (λ_=>WP.ret rfl) (λ_=>WP.bif (λ_=>WP.ret rfl) (λ_=>WP.e_ b)))):WP ae _ _ λ_ t=>t.a=s.a).mono λak t e=>?_)));have a:=d.mv rfl e;refine WP.bind (WP.step (WP.bind (WP.cE (WP.bind (WP.get (WP.bind (WP.bif (λ_=>WP.e_ b) (λ_=>WP.ret (WP.bind (WP.bif (λ_=>g.run .bf (cZ a) λi u h=>WP.bind (GX b λv c=>kj h.1 rfl hp c)) (λ_=>WP.ret (WP.bind (GX b λv c=>kj a (dQ _).symm hp c)))))))))))))
theorem adp(l:gr L ae)(d:fS L ae aO wide f)(body:Bool)(i:bM ae s os):WP ae (P L ae aO wide (f+1) (.cw body)) s (d_ ae os (.cw body)):=by
 have hp:=kN l s;have j:WP ae (one (P L ae aO wide f .bf)>>=λe=>eh L ae>>=λ_=>cj ⟨20,.empty,0,[e],(I L ae s).au⟩) s (d_ ae os (.cw body)):=
  WP.bind (d.one .bf rfl (cZ i) λe t h=>WP.bind (GX l λu m=>kj h rfl hp m))
 refine WP.bind (WP.cE (WP.bind (WP.get (WP.bif (λ_=>d.dI (.block false) rfl (cZ i)) (λ_=>WP.bif (λ_=>?_) (λ_=>?_))))));exact WP.bind (WP.empty l i λk t h=>WP.bind (WP.step (WP.ret (CN h))));dsimp only;refine WP.bif (λ_=>WP.bif (λ_=>?_) (λ_=>WP.bif (λ_=>?_) (λ_=>WP.bif (λ_=>?_) (λ_=>WP.bif (λ_=>?_) (λ_=>WP.bif (λ_=>?_) (λ_=>WP.bif (λ_=>?_) (λ_=>WP.bif (λ_=>?_) (λ_=>WP.bif (λ_=>?_) (λ_=>j))))))))) (λ_=>j);exact WP.bind (d.one .vars rfl (cZ i) λk t h=>WP.bind (GX l λu m=>WP.ret (CN h m)));exact d.dI (.simple _) rfl (cZ i) (hp:=hp);exact WP.bif (λ_=>WP.e_ l) (λ_=>d.dI (.func 35) rfl (cZ i))
 ·
  refine WP.bind (WP.step (WP.bind (d.one .paren rfl (cZ i) λc t h=>WP.bind (d.one (.cw false) rfl (cZ h) λa u g=>WP.bind (WP.cK (λ_=>WP.bind (WP.bif (λ_=>d.run (.cw false) (cZ g) λn v k=>kj k.1 ?_ hp) (λe=>nomatch e))) (λ_=>WP.bind (WP.bif (λe=>nomatch e) (λ_=>WP.ret (kj g ?_ hp)))))))))
  all_goals grind
 refine WP.bind (WP.step (WP.bind (d.one .paren rfl (cZ i) λc t h=>WP.bind (d.one .loop rfl (cZ h) λb u g=>kj g ?_ hp))));simp;exact WP.bind (WP.step (d.dI (.dv _) rfl (cZ i) (hp:=hp)));exact WP.bind (WP.step (d.dI (.d5 _) rfl (cZ i) (hp:=hp)));exact WP.bind (WP.step (d.dI (.choose _) rfl (cZ i) (hp:=hp)))
theorem JE(d:gr L ae):∀f,fS L ae aO wide f
 |0=>λtag s os _ _=>by
  unfold P;trivial
 |f+1=>λtag s os hp b=>by
  have c:=JE d f;cases tag with
  |bf=>exact ac_ d c (b.cast (dQ _))
  |cond=>exact ac9 d c (b.cast (dQ _))
  |level n=>exact ade d c n (b.cast (dQ _))
  |ig n left=>exact adf d c n left b
  |unary=>exact adt d c (b.cast (dQ _))
  |eo=>exact ac3 c (b.cast (dQ _))
  |suffix=>exact adq c (b.cast (dQ _))
  |eX k=>exact adl d c k b
  |eV a=>exact ac6 d c a b
  |de a=>exact ac2 d c a b
  |dr a=>exact adi d c a b
  |dL=>exact adm d c (b.cast (dQ _))
  |func ak=>exact adb d c ak (b.cast (dQ _))
  |ed a=>exact adj d c a b
  |block body=>exact ac4 d c body (b.cast (dQ _))
  |gQ a body=>exact ac5 c a body b
  |paren=>exact adk d c (b.cast (dQ _))
  |vars=>exact adv d c (b.cast (dQ _))
  |eO a=>exact adu d c a b
  |loop=>exact adg c (b.cast (dQ _))
  |dv au=>exact ada d c au hp (b.cast (dQ _))
  |d5 au=>exact ads d c au hp (b.cast (dQ _))
  |choose au=>exact ac8 d c au hp (b.cast (dQ _))
  |fk a seen=>exact adr d c a seen b
  |fM a=>exact ac7 c a b
  |simple x=>exact ado d c x hp (b.cast (dQ _))
  |cw body=>exact adp d c body (b.cast (dQ _))
  |prog a=>exact adn d c a b
theorem amn(a:gr L ae)(f:Nat):WP ae (P L ae aO wide f (.prog [])) ⟨0,[],0,0,0⟩ λ_ t=>∃k,bM ae t [k]:=
 (JE a f (.prog []) ⟨0,[],0,0,0⟩ [] trivial ⟨List.Perm.refl _,List.Pairwise.nil,λi x h=>by simp at h,λx h=>by simp at h⟩).mono λb t h=>by
  obtain⟨k,rfl⟩:=h.2 rfl;exact⟨k,h.1⟩
end
end
section
structure dm where
 b:Nat
 la:bv
 lc:Nat
 L:List a8
 ae:Int
 i:Nat
structure j4(x:dm)(F:ag):Prop where
 l0:aH F ⟨x.b,0,none⟩ (.slice x.la x.L.length x.lc)
 l1:aH F ⟨x.b,1,none⟩ (.int .i64 x.i)
 l2:aH F ⟨x.b,2,none⟩ (.int .i64 x.ae)
 af:e6 5 (iF x.L) x.la x.L.length
 FZ:e8 F x.la (iF x.L)
variable{x:dm}
theorem j4.sub{A B:ag}(hs:Sub A B)(h:j4 x A):j4 x B:=⟨h.l0.sub hs,h.l1.sub hs,h.l2.sub hs,h.af,h.FZ.sub hs⟩
theorem Sl:∀(L:List a8)(i j:Nat)(d:a8)(u:aD),L[i]?=some d->(lS d)[j]?=some u->(iF L)[i*5+j]?=some u
 | [],i,j,d,u,h,_=>by simp at h
 |e::L,0,j,d,u,h,a=>by
  have h:e=d:=by simpa using h
  subst h;have c:=(ic.1 a).1;have:iF (e::L)=lS e++iF L:=rfl;rw[this,Nat.zero_mul,gZ,m5 c];exact a
 |e::L,i+1,j,d,u,h,a=>by
  have:iF (e::L)=lS e++iF L:=rfl;have b:(lS e).length=5:=rfl;rw[this,lQ O,b,show(i+1)*5+j-5=i*5+j by omega];exact Sl L i j d u h a
theorem j4.look{F:ag}(h:j4 x F){b o i j:Nat}{d:a8}{u:aD}(e:x.la=some ⟨b,o,none⟩)(c:x.L[i]?=some d)(f:(lS d)[j]?=some u):aH F ⟨b,o+i*5+j,none⟩ u:=by
 have a:=h.FZ;rw[e]at a;have:=a.look (Sl x.L i j d u c f);grind
def b_(L:List a8)(ae:Int)(i:Nat):a8:=(L[i]?).getD ⟨0,⟨#[]⟩,0,ae,false⟩
def eT(j:Nat):List LH:=[.aS j,.aS j,.aS j,.aS j,.aS j]
abbrev xW(x:dm):bv:=some ⟨x.b,0,none⟩
abbrev jf:aF where
 X:=dm
 args x:=[W (xW x)]
 cond x:=x.L.length<=1048576
 aE x F:=j4 x F
 val x _:=al (agg ⟨lS (b_ x.L x.ae x.i)⟩)
 eL _ _ _ a h:=j4.sub a h
def Zu:List LH:=[.ex 0 (.int .i64),.ex 0 .str,.ex 0 (.float .f64),.ex 0 (.int .i64),.ex 0 .bool]
abbrev VU(a:Int):aN:=[Z 0,C ⟨#[]⟩,float f64 0,Z a,H false]
def fV(c:Oper)(a:aN)(b:qD->Prop):=cN prog c (dy 5)/\∃(z:qD),a=[Q (some ⟨z.b,z.o,none⟩) z.len z.aq,Z z.n]/\(0<=z.n/\z.n<z.len)/\b z
abbrev Ct(e:Int)(d:ah)(c:Nat)(b:Int)(a:Bool):aN:=[Z e,C d,float f64 c,Z b,H a]
theorem ah4(x:dm)(F:ag)(w:jf.cond x)(q:jf.aE x F):∀(o:Nat),true=true/\T1 F ⟨x.b,1,none⟩ (λn=>dN F ⟨x.b,0,none⟩ (λm p k=>aK (n>=p) (T1 F ⟨x.b,2,none⟩ (λa=>bQ o (bQ o (l jf x F (al (agg ⟨VU a⟩)) [(0,F),(1000,D o (VU a) 56)])))) (true=true/\dN F ⟨x.b,0,none⟩ (λj i h=>T1 F ⟨x.b,1,none⟩ (λg=>fV (aL f23 3 8) [Q j i h,Z g] (λf=>T1 F ⟨f.b,f.o+f.n.toNat*5,none⟩ (λe=>T2 F ⟨f.b,f.o+f.n.toNat*5+1,none⟩ (λd=>lO F ⟨f.b,f.o+f.n.toNat*5+2,none⟩ (λc=>T1 F ⟨f.b,f.o+f.n.toNat*5+3,none⟩ (λb=>yM F ⟨f.b,f.o+f.n.toNat*5+4,none⟩ (λa=>bQ o (bQ o (l jf x F (al (agg ⟨Ct e d c b a⟩)) [(0,F),(1000,D o (Ct e d c b a) 56)]))))))))))))):=by
 delta T1 dN VU fV T2 lO yM Ct bQ Z C H Q D aK al;intro b;refine⟨rfl,_,q.l1,_,_,_,q.l0,bd (λh=>⟨_,q.l2,Y,Y,Y,Y,Y,Y,Y,Y,Y,Y,(),ai, ?_,ao [0]⟩) (λh=>?_)⟩;show returned _=returned (.agg ⟨lS (b_ x.L x.ae x.i)⟩);unfold b_;rw[oH O] <;> rfl;obtain⟨d,s⟩:∃d,x.L[x.i]?=some d:=⟨_,da O⟩;obtain⟨lb,t,r⟩:=q.af.some O;have k:∀(j:Nat)(u:aD),(lS d)[j]?=some u->aH F ⟨lb,t+(x.i:Int).toNat*5+j,none⟩ u:=λj u v=>by{rw[cy];exact q.look r s v};refine⟨rfl,_,_,_,q.l0,_,q.l1,bZ 5 rfl rfl rfl rfl,⟨lb,t,x.L.length,x.lc,x.i⟩,by rw[r],⟨by simp[*],by grind⟩,_,k 0 _ rfl,_,k 1 _ rfl,_,k 2 _ rfl,_,k 3 _ rfl,_,k 4 _ rfl,Y,Y,Y,Y,Y,Y,Y,Y,Y,Y,(),ai, ?_,ao [0]⟩;show returned _=returned (.agg ⟨lS (b_ x.L x.ae x.i)⟩);unfold b_;rw[s] <;> rfl
theorem lR:aG 23 jf:=fo 28 func23 (λ_ _=>[(0,0,.n 1000),(1,3,cD),(1,7,.q [.ex 0 .slice]),(2,3,cD),(2,5,.w (eT 1000)),(3,3,.q [.ex 0 .slice]),(3,7,cD),(3,8,.qo (dy 5)),(3,9,.q Zu),(3,10,.w (eT 1000))]) [] dV dV gj (eT 1000) ah4
structure Dr where
 p:dm
 a:Nat
 t:ah
theorem gq(a b:ah):(a.toList==b.toList)=bx a b:=by
 have e:bx a b=(a.data==b.data):=by unfold bx;cases a;cases b;rfl
 rw[e,Bool.eq_iff_iff,beq_iff_eq,beq_iff_eq,ByteArray.toList_eq,ByteArray.toList_eq];simp[*]
def iS(L:List a8)(k:Nat)(t:ah):Bool:=match L[k]? with
 |none=>false
 |some x=>(x.ak==5||x.ak==2)&&bx x.aJ t
abbrev gU:aF where
 X:=Dr
 args x:=[W (some ⟨x.p.b,0,none⟩),Z x.a,C x.t]
 cond x:=x.p.L.length<=1048576/\x.p.i<=1048576/\x.a<=1048576
 aE x F:=j4 x.p F
 val x _:=al (H (iS x.p.L (x.p.i+x.a) x.t))
 eL _ _ _ a h:=j4.sub a h
theorem aiC(x:Dr)(F:ag)(E:gU.cond x)(q:gU.aE x F):true=true/\T1 F ⟨x.p.b,1,none⟩ (λo=>aA (o+x.a)/\dN F ⟨x.p.b,0,none⟩ (λn m p=>aK (o+x.a>=(m:Int)) (l gU x F cm [(0,F)]) (true=true/\dN F ⟨x.p.b,0,none⟩ (λk j i=>T1 F ⟨x.p.b,1,none⟩ (λh=>aA (h+x.a)/\fV (aL f44 3 10) [Q k j i,Z (h+x.a)] (λg=>T1 F ⟨g.b,g.o+g.n.toNat*5,none⟩ (λf=>T2 F ⟨g.b,g.o+g.n.toNat*5+1,none⟩ (λe=>lO F ⟨g.b,g.o+g.n.toNat*5+2,none⟩ (λd=>T1 F ⟨g.b,g.o+g.n.toNat*5+3,none⟩ (λc=>yM F ⟨g.b,g.o+g.n.toNat*5+4,none⟩ (λb=>∀(a:Nat),bQ a (V a 0/\Br (f==5) (V a 1/\l gU x F (al (H (e.toList==x.t.toList))) [(0,F),(4120,D a (Ct f e d c b) 56)]) (V a 0/\Br (f==2) (V a 1/\l gU x F (al (H (e.toList==x.t.toList))) [(0,F),(4120,D a (Ct f e d c b) 56)]) (l gU x F cm [(0,F),(4120,D a (Ct f e d c b) 56)])))))))))))))):=by
 delta T1 dN cM cm fV T2 lO yM Ct V aA bQ Z C H Q D aK al;obtain⟨⟨b,J,lc,L,ae,i⟩,a,t⟩:=x;obtain⟨A,G,B⟩:=E;dsimp only at A G B;dsimp only;refine⟨rfl,_,q.l1,⟨O,by grind⟩,_,_,_,q.l0,bd (λh=>⟨(),ai,l7 ?_,ao [0]⟩) (λh=>?_)⟩;dsimp only at h⊢;unfold iS;grind;dsimp only at h;obtain⟨d,v⟩:∃d,L[i+a]?=some d:=⟨_,da O⟩;obtain⟨lb,y,r⟩:=q.af.some (by grind);have z:((i:Int)+(a:Int)).toNat=i+a:=O;have k:∀(j:Nat)(u:aD),(lS d)[j]?=some u->aH F ⟨lb,y+((i:Int)+(a:Int)).toNat*5+j,none⟩ u:=λj u I=>by{rw[z];exact q.look r v I};have w:iS L (i+a) t=((d.ak==5||d.ak==2)&&bx d.aJ t):=by unfold iS;rw[v]
 refine⟨rfl,_,_,_,q.l0,_,q.l1,⟨O,by grind⟩,bZ 5 rfl rfl rfl rfl,⟨lb,y,L.length,lc,(i:Int)+(a:Int)⟩,by grind,⟨by grind,by grind⟩,_,k 0 _ rfl,_,k 1 _ rfl,_,k 2 _ rfl,_,k 3 _ rfl,_,k 4 _ rfl,λK=>⟨Y,Y,Y,Y,Y,Y,ar (λe1=>⟨Y,(),ai,l7 ?_,ao [0]⟩) (λe1=>⟨Y,ar (λs=>⟨Y,(),ai,l7 ?_,ao [0]⟩) (λs=>⟨(),ai,l7 ?_,ao [0]⟩)⟩)⟩⟩;dsimp only;rw[w,gq,show(d.ak==5)=true from e1] <;> rfl;dsimp only;rw[w,gq,show(d.ak==2)=true from s,oG] <;> rfl;simp[*]
theorem kO:aG 44 gU:=fo 46 func44 (λ_ _=>[(1,3,cD),(1,9,.q [.ex 0 .slice]),(3,3,.q [.ex 0 .slice]),(3,7,cD),(3,10,.qo (dy 5)),(3,11,.q Zu),(3,12,.n 4120)]) [(3,13,.w [LH.aS (4120:Nat),LH.aS (4120:Nat),LH.aS (4120:Nat),LH.aS (4120:Nat),LH.aS (4120:Nat)]),(4,1,z 4120),(4,10,z 4120),(4,5,z 4120)] dV dV gj [] aiC
end
structure Px where
 b:Nat
 p:Int
 e:Int
def jj(p e:Int):aD:=.iface 54 (.agg #[.int .i64 p,.int .i64 e])
abbrev BD:aF where
 X:=Px
 args x:=[W (some ⟨x.b,0,none⟩),Z x.p,Z x.e]
 val x _:=panicked [⟨jj x.p x.e,false,false⟩]
abbrev EY(x:Px):=panicked [{v:=ce 54 (agg ⟨[Z x.p,Z x.e]⟩),recovered:=false}]
def ahi(x:Px)(F:ag)(a:BD.cond x)(b:BD.aE x F):l BD x F (EY x) [(0,F)]:=by
 delta EY Z ce;exact iy
def YT:aG 27 BD:=cY func27 [(0,4,.w [])] ahi
structure Xi where
 p:dm
 a:Nat
def Es(L:List a8)(k:Nat):Bool:=match L[k]? with
 |none=>false
 |some x=>x.ak==1
abbrev zm:aF where
 X:=Xi
 args x:=[W (some ⟨x.p.b,0,none⟩),Z x.a]
 cond x:=x.p.L.length<=1048576/\x.p.i<=1048576/\x.a<=1048576
 aE x F:=j4 x.p F
 val x _:=al (H (Es x.p.L (x.p.i+x.a)))
 eL _ _ _ a h:=j4.sub a h
def ajY(x:Xi)(F:ag)(t:zm.cond x)(m:zm.aE x F):true=true/\T1 F ⟨x.p.b,1,none⟩ (λj=>aA (j+x.a)/\dN F ⟨x.p.b,0,none⟩ (λi h g=>aK (j+x.a<(h:Int)) (dN F ⟨x.p.b,0,none⟩ (λf e d=>T1 F ⟨x.p.b,1,none⟩ (λc=>aA (c+x.a)/\fV (aL f113 1 23) [Q f e d,Z (c+x.a)] (λb=>T1 F ⟨b.b,b.o+b.n.toNat*5,none⟩ (λa=>l zm x F (al (H (a==1))) [(0,F)]))))) (l zm x F cm [(0,F)]))):=by
 delta T1 dN fV cM cm aA Z H Q aK al;obtain⟨⟨b,z,lc,L,ae,i⟩,a⟩:=x;obtain⟨r,v,s⟩:=t;dsimp only at r v s;dsimp only;refine⟨rfl,_,m.l1,rf,_,_,_,m.l0,bd (λh=>?_) (λh=>⟨(),ai,l7 ?_,ao [0]⟩)⟩;dsimp only at h;obtain⟨d,o⟩:∃d,L[i+a]?=some d:=⟨_,da O⟩;obtain⟨lb,p,n⟩:=m.af.some bX;have q:((i:Int)+(a:Int)).toNat=i+a:=O;have k:∀(j:Nat)(u:aD),(lS d)[j]?=some u->aH F ⟨lb,p+((i:Int)+(a:Int)).toNat*5+j,none⟩ u:=λj u w=>by{rw[q];exact m.look n o w};have y:Es L (i+a)=(d.ak==1):=by unfold Es;rw[o]
 refine⟨_,_,_,m.l0,_,m.l1,rf,bZ 5 rfl rfl rfl rfl,⟨lb,p,L.length,lc,(i:Int)+(a:Int)⟩,by rw[show z=_ from n],rf,_,k 0 _ rfl,(),ai,l7 ?_,ao [0]⟩;dsimp only;rw[y];dsimp only at h⊢;unfold Es;rw[oH O]
def ZO:aG 113 zm:=cY func113 [(1,3,cD),(1,9,.q [.ex 0 .slice]),(1,16,.q [.ex 0 .slice]),(1,20,cD),(1,23,.qo (dy 5)),(1,25,cD)] ajY
abbrev mo:aF where
 X:=dm
 args x:=[W (xW x)]
 cond x:=x.L.length<=1048576
 aE x F:=j4 x F
 val x _:=panicked [⟨jj (b_ x.L x.ae x.i).au 60,false,false⟩]
 eL _ _ _ a h:=j4.sub a h
def fq:=bz 23 jf (λa=>a.L.length<=1048576) j4
def J8:=fv 27 BD
def afk(x:dm)(F:ag)(e:mo.cond x)(f:mo.aE x F):fq [W (xW x)] (cO F) (λd c=>J8 [W (xW x),Z (b_ d.L d.ae d.i).au,Z 60] (λb a=>l mo x F (EY b) [(0,F)])):=by
 delta fq xW cO J8 EY g fv bz Z W ce;exact ba lR x e (j4.sub (bB 0) f) λ_ _=>kH YT ⟨x.b,(b_ x.L x.ae x.i).au,60⟩ λ_ _=>iy
def qS:aG 11 mo:=cY func11 [(0,2,aI jf),(0,4,aI BD)] afk
section
section
variable{α β:Type}{s:ap}
variable(L:List a8){ae:Int}
def left(s:ap):Nat:=L.length-s.i
variable{L}
theorem ri{s:ap}(h:(I L ae s).ak≠0):s.i<L.length:=by
 unfold I at h;cases a:L[s.i]? with
 |none=>rw[a]at h;exact absurd rfl h
 |some x=>exact(ic.1 a).1
theorem p9{s:ap}{t:ah}(h:K L s 0 t=true):s.i<L.length:=by
 unfold K at h;cases a:L[s.i+0]? with
 |none=>rw[a]at h;cases h
 |some x=>exact(ic.1 a).1
end
def aj.sZ:aj->Nat
 | .level n=>6+(10-n)
 | .cond=>17| .bf=>18| .cw _=>19| .eV _| .de _=>19| .loop| .gQ _ _| .fM _| .prog _=>20
 | .unary=>5| .eo=>4| .suffix=>3| .dL=>2| .d5 _| .choose _=>2
 |_=>1
def aj.ct(L:List a8)(s:ap):aj->Prop
 | .level n=>n<=10
 | .ig n _=>n<=9
 | .func _| .vars| .simple _=>s.i<L.length
 |_=>True
section
variable{ae:Int}{L:List a8}{aO:Nat->ah}{wide:ah->ah}
end
end
section
def KP{α:Type}(E:Prop)(m:j α)(s:ap)(Q:α->ap->Prop):Prop:=
 match m s with
 | .ok a t=>Q a t
 | .stop _ e _=>e≠0
 | .out=>¬E
abbrev En(L:List a8)(s:ap)(tag:aj)(f:Nat):Prop:=24*(L.length-s.i)+tag.sZ<=f
abbrev Dk(L:List a8)(k n:Nat)(s t:ap):Prop:=t.i=s.i+k/\t.i<=L.length/\t.a.length=s.a.length+n/\t.h=s.h/\t.loops=s.loops/\t.d=s.d
def aj.sl:aj->Nat
 | .bf| .cond| .level _| .unary| .eo| .suffix| .dL| .func _| .paren| .block _=>1
 |_=>0
def aj.sk:aj->Nat
 | .prog _=>1
 |_=>0
def aj.co:aj->Nat
 | .cw _| .loop| .vars| .simple _=>1
 |_=>0
abbrev o(L:List a8)(tag:aj)(s t:ap):Prop:=s.i+tag.co<=t.i/\t.i<=L.length/\s.a.length<=t.a.length/\t.a.length+2*s.i+tag.sl<=s.a.length+2*t.i+tag.sk/\t.h=s.h/\t.loops=s.loops/\t.d=s.d
section
variable{α β:Type}{ae:Int}{L:List a8}{aO:Nat->ah}{wide:ah->ah}{s:ap}{E:Prop}
theorem KP.bind{m:j α}{f:α->j β}{Q:β->ap->Prop}(h:KP E m s λa t=>KP E (f a) t Q):KP E (m>>=f) s Q:=by
 show KP E (bP m f) s Q;unfold KP bP at*;grind
theorem KP.mono{m:j α}{Q R:α->ap->Prop}(h:KP E m s Q)(k:∀a t,Q a t->R a t):KP E m s R:=by
 unfold KP at*;grind
theorem KP.wk{G:Prop}{m:j α}{Q:α->ap->Prop}(h:KP G m s Q)(k:E->G):KP E m s Q:=by
 unfold KP at*;grind
theorem KP.ok{m:j α}{Q:α->ap->Prop}(h:KP E m s Q){a:α}{t:ap}(e:m s= .ok a t):Q a t:=by
 unfold KP at h;grind
theorem KP.ret{a:α}{Q:α->ap->Prop}(h:Q a s):KP E (ret a) s Q:=h
variable{b:Bool}{T:ah}{x:aR}{k:Int}{Q:Int->ap->Prop}{f:Nat}{tag:aj}
theorem KP.bif{m n:j α}{Q:α->ap->Prop}(a:b=true->KP E m s Q)(c:b=false->KP E n s Q):KP E (bif b then m else n) s Q:=by
 grind
theorem KP.get{Q:ap->ap->Prop}(h:Q s s):KP E fd s Q:=h
theorem KP.fz(h:∀p,Q p s):KP E (fz k) s Q:=h _
theorem acu{j:Nat}{Q:ax->ap->Prop}(a:s.i+j<=L.length)(h:∀t,Dk L j 0 s t->Q () t):KP E (jU {s with i:=s.i+j}) s Q:=h _ ⟨rfl,a,rfl,rfl,rfl,rfl⟩
theorem Ds{a b c:Int}{Q:ax->ap->Prop}(h:∀t:ap,t.i=s.i/\t.a.length=s.a.length/\t.h=a/\t.loops=b/\t.d=c->Q () t):KP E (jU {s with h:=a,loops:=b,d:=c}) s Q:=h _ ⟨rfl,rfl,rfl,rfl,rfl⟩
theorem KP.node(a:s.i<=L.length)(h:∀k t,Dk L 0 1 s t->Q k t):KP E (dX x) s Q:=h _ _ ⟨rfl,a,eH,rfl,rfl,rfl⟩
theorem KP.ga(a:s.i<=L.length){Q:aM->ap->Prop}(h:∀k t,Dk L 0 1 s t->Q k t):KP E (cj x) s Q:=h [_] {s with a:=s.a++[x]} ⟨rfl,a,eH,rfl,rfl,rfl⟩
theorem KP.step(a:s.i<L.length){Q:ax->ap->Prop}(h:∀t,Dk L 1 0 s t->Q () t):KP E fh s Q:=h _ ⟨rfl,a,rfl,rfl,rfl,rfl⟩
theorem KP.cE{Q:a8->ap->Prop}(h:Q (I L ae s) s):KP E (gk L ae) s Q:=h
theorem KP.e_{Q:α->ap->Prop}:KP E (ju L ae) s Q:=show(60:Int)≠0 by decide
theorem KP.cK{Q:Bool->ap->Prop}(b:∀u,Dk L 1 0 s u->Q true u)(c:K L s 0 T=false->Q false s):KP E (cT L T) s Q:=by
 unfold KP cT;cases a:K L s 0 T with
 |true=>exact b _ ⟨rfl,p9 a,rfl,rfl,rfl,rfl⟩
 |false=>exact c a
theorem KP.cC{Q:ax->ap->Prop}(a:∀u,Dk L 1 0 s u->Q () u):KP E (cu L ae T) s Q:=by
 unfold KP cu;cases b:K L s 0 T with
 |true=>exact a _ ⟨rfl,p9 b,rfl,rfl,rfl,rfl⟩
 |false=>exact show(60:Int)≠0 by decide
theorem KP.t_{a:Nat}{Q:Bool->ap->Prop}(h:∀b,b=K L s a T->Q b s):KP E (jM L a T) s Q:=h _ rfl
theorem KP.oS{Q:ax->ap->Prop}(h:Q () s):KP E (mD k b) s Q:=by
 unfold KP mD;grind
theorem KP.word{Q:ah->ap->Prop}(h:∀w t,Dk L 1 0 s t->Q w t):KP E (iM L ae) s Q:=by
 unfold KP iM;cases U:(I L ae s).ak !=1 with
 |true=>exact show(60:Int)≠0 by decide
 |false=>exact h _ _ ⟨rfl,ri (ae:=ae) (λa=>by rw[a]at U;cases U),rfl,rfl,rfl,rfl⟩
theorem Gj(b:s.i<=L.length){Q:ax->ap->Prop}(h:∀t,Dk L 0 0 s t\/Dk L 1 0 s t->Q () t):KP E (eh L ae) s Q:=by
 unfold KP eh;cases a:K L s 0 dt with
 |true=>exact h _ (.inr ⟨rfl,p9 a,rfl,rfl,rfl,rfl⟩)
 |false=>
  grind
theorem KP.key(h:∀k t,Dk L 1 1 s t->Q k t):KP E (ec L ae aO wide) s Q:=by
 have go:(I L ae s).ak≠0->∀x k,Q k {s with i:=s.i+1,a:=s.a++[x]}:=λU x k=>h _ _ ⟨rfl,ri (ae:=ae) U,X,rfl,rfl,rfl⟩;unfold KP ec;dsimp only;cases b:(I L ae s).ak==1||(I L ae s).ak==2 with
 |true=>exact go (λa=>by rw[a]at b;cases b) _ _
 |false=>
  cases c:(I L ae s).ak==3 with
  |true=>exact go (λa=>by rw[a]at c;cases c) _ _
  |false=>
   cases d:(I L ae s).ak==4 with
   |true=>exact go (λa=>by rw[a]at d;cases d) _ _
   |false=>exact show(60:Int)≠0 by decide
theorem KP.empty(a:s.i<=L.length)(h:∀k t,Dk L 0 1 s t->Q k t):KP E (kF L ae) s Q:=KP.bind (KP.cE (KP.node a h))
def fD(L:List a8)(ae:Int)(aO:Nat->ah)(wide:ah->ah)(f:Nat):Prop:=
 ∀(tag:aj)(s:ap),s.i<=L.length->tag.ct L s->KP (En L s tag f) (P L ae aO wide f tag) s λ_ t=>o L tag s t
abbrev KE(L:List a8)(s t:ap):Prop:=s.i<=t.i/\t.i<=L.length/\s.a.length<=t.a.length/\t.a.length+2*s.i+1<=s.a.length+2*t.i/\t.h=s.h/\t.loops=s.loops/\t.d=s.d
abbrev KS(L:List a8)(s t:ap):Prop:=s.i<=t.i/\t.i<=L.length/\s.a.length<=t.a.length/\t.a.length+2*s.i<=s.a.length+2*t.i/\t.h=s.h/\t.loops=s.loops/\t.d=s.d
theorem KP.one{m:j (aM)}(h:KP E m s λa t=>Q (a.headD 0) t):KP E (one m) s Q:=KP.bind (m:=m) (f:=λl=>Go.Proofs.YthhiffpfleacaaaGreatDoor.ret (l.headD 0)) (h.mono λ_ _ q=>KP.ret q)
theorem fD.e1(e:fD L ae aO wide f)(tag:aj)(k:∀k t,KE L s t->Q k t)(d:s.i<=L.length:=by omega)(hn:tag.ct L s:=by trivial)(b:tag.sl=1:=by rfl)(c:tag.sk=0:=by rfl)(a:E->En L s tag f:=by intro a;dsimp only[En,aj.sZ]at*;omega):KP E (one (P L ae aO wide f tag)) s Q:=
 KP.one (((e tag s d hn).wk a).mono λg t h=>k _ t (by unfold o at h;rw[b,c]at h;exact⟨O,h.2⟩))
theorem fD.s1(e:fD L ae aO wide f)(tag:aj)(k:∀k t,KS L s t->s.i+1<=t.i->Q k t)(d:s.i<=L.length:=by omega)(hn:tag.ct L s:=by trivial)(b:tag.sl=0:=by rfl)(c:tag.sk=0:=by rfl)(g:tag.co=1:=by rfl)(a:E->En L s tag f:=by intro a;dsimp only[En,aj.sZ]at*;omega):KP E (one (P L ae aO wide f tag)) s Q:=
 KP.one (((e tag s d hn).wk a).mono λi t h=>k _ t (by unfold o at h;rw[b,c]at h;exact⟨O,h.2⟩) (by unfold o at h;omega))
theorem fD.re(e:fD L ae aO wide f)(tag:aj){Q:aM->ap->Prop}(k:∀k t,KE L s t->Q k t)(d:s.i<=L.length:=by omega)(hn:tag.ct L s:=by trivial)(b:tag.sl=1:=by rfl)(c:tag.sk=0:=by rfl)(a:E->En L s tag f:=by intro a;dsimp only[En,aj.sZ]at*;omega):KP E (P L ae aO wide f tag) s Q:=
 ((e tag s d hn).wk a).mono λg t h=>k _ t (by unfold o at h;rw[b,c]at h;exact⟨O,h.2⟩)
theorem fD.rs(e:fD L ae aO wide f)(tag:aj){Q:aM->ap->Prop}(k:∀k t,KS L s t->Q k t)(d:s.i<=L.length:=by omega)(hn:tag.ct L s:=by trivial)(b:tag.sl=0:=by rfl)(c:tag.sk=0:=by rfl)(a:E->En L s tag f:=by intro a;dsimp only[En,aj.sZ]at*;omega):KP E (P L ae aO wide f tag) s Q:=
 ((e tag s d hn).wk a).mono λg t h=>k _ t (by unfold o at h;rw[b,c]at h;exact⟨O,h.2⟩)
theorem acD(a:fD L ae aO wide f)(b:s.i<=L.length):KP (En L s .bf (f+1)) (P L ae aO wide (f+1) .bf) s λ_ t=>o L .bf s t:=by
 refine KP.bind (a.e1 .cond λk t h=>KP.bind (KP.cE (KP.bif (λ_=>KP.ret (by dsimp only[o,aj.sl,aj.sk,aj.co];omega)) (λU=>KP.bind (KP.oS (KP.bind (KP.step (L:=L) (ri (ae:=ae) ?_) λu g=>KP.bind (a.e1 .bf λr v q=>KP.bind (KP.fz λp=>KP.ga (L:=L) O λk w e=>(by dsimp only[o,aj.sl,aj.sk,aj.co];omega))))))))));grind
theorem acC(d:fD L ae aO wide f)(i:s.i<=L.length):KP (En L s .cond (f+1)) (P L ae aO wide (f+1) .cond) s λ_ t=>o L .cond s t:=by
 exact KP.bind (d.e1 (.level 0) (hn:=b7 _) λc t h=>KP.bind (KP.cK (λu g=>KP.bif (λe=>nomatch e) (λ_=>KP.bind (d.e1 .bf λa v q=>KP.bind (KP.cC λw e=>KP.bind (d.e1 .bf λb y z=>KP.bind (KP.fz λp=>KP.ga (L:=L) O λk w e=>(by dsimp only[o,aj.sl,aj.sk,aj.co];omega))))))) (λ_=>KP.bif (λ_=>KP.ret (by dsimp only[o,aj.sl,aj.sk,aj.co];omega)) (λe=>nomatch e))))
theorem acU(a:fD L ae aO wide f)(b:s.i<=L.length):KP (En L s .unary (f+1)) (P L ae aO wide (f+1) .unary) s λ_ t=>o L .unary s t:=by
 refine KP.bind (KP.cE (KP.bif (λ_=>a.re .eo λc t h=>(by dsimp only[o,aj.sl,aj.sk,aj.co];omega)) (λU=>?_)));have b:s.i<L.length:=ri (ae:=ae) (λe=>by rw[e]at U;cases U);exact KP.bif (λ_=>KP.bind (KP.step (L:=L) b λt h=>KP.bind (a.e1 .unary λk u g=>KP.bind (KP.bif (λ_=>KP.oS (KP.ga (L:=L) O λk w e=>(by dsimp only[o,aj.sl,aj.sk,aj.co];omega))) (λ_=>KP.ret (KP.ga (L:=L) O λk w e=>(by dsimp only[o,aj.sl,aj.sk,aj.co];omega))))))) (λ_=>KP.bif (λ_=>KP.bind (KP.step (L:=L) b λt h=>KP.bind (a.e1 .unary λk u g=>KP.bind (KP.oS (KP.ga (L:=L) O λk w e=>(by dsimp only[o,aj.sl,aj.sk,aj.co];omega)))))) (λ_=>a.re .eo λc t h=>(by dsimp only[o,aj.sl,aj.sk,aj.co];omega)))
theorem acw(a:fD L ae aO wide f)(b:s.i<=L.length):KP (En L s .eo (f+1)) (P L ae aO wide (f+1) .eo) s λ_ t=>o L .eo s t:=by
 refine KP.bind (a.e1 .suffix λk t h=>KP.bind (KP.cE (KP.bif (λ_=>KP.ret (by dsimp only[o,aj.sl,aj.sk,aj.co];omega)) (λU=>KP.bind (KP.oS (KP.bind (KP.step (L:=L) (ri (ae:=ae) ?_) λu g=>KP.bind (KP.fz λp=>KP.ga (L:=L) O λk w e=>(by dsimp only[o,aj.sl,aj.sk,aj.co];omega)))))))));grind
theorem acR(a:fD L ae aO wide f)(b:s.i<=L.length):KP (En L s .suffix (f+1)) (P L ae aO wide (f+1) .suffix) s λ_ t=>o L .suffix s t:=by
 exact KP.bind (a.e1 .dL λk t h=>a.rs (.eX k) λc u g=>(by dsimp only[o,aj.sl,aj.sk,aj.co];omega))
theorem acz(c:fD L ae aO wide f)(a:aM)(d:s.i<=L.length):KP (En L s (.eV a) (f+1)) (P L ae aO wide (f+1) (.eV a)) s λ_ t=>o L (.eV a) s t:=by
 have b:∀{t:ap},KS L s t->KP (En L s (.eV a) (f+1)) (one (P L ae aO wide f .bf)>>=λe=>P L ae aO wide f (.eV (a++[e]))) t λ_ t=>o L (.eV a) s t:=λ{t}h=>KP.bind (c.e1 .bf λe u g=>c.rs (.eV (a++[e])) λi v q=>(by dsimp only[o,aj.sl,aj.sk,aj.co];omega));exact KP.bind (KP.cK (λt h=>KP.bif (λ_=>KP.ret (by dsimp only[o,aj.sl,aj.sk,aj.co];omega)) (λe=>nomatch e)) (λ_=>KP.bif (λe=>nomatch e) (λ_=>KP.bind (KP.bif (λ_=>KP.cC λt h=>b O) (λ_=>KP.ret (b O))))))
theorem acv(c:fD L ae aO wide f)(a:aM)(i:s.i<=L.length):KP (En L s (.de a) (f+1)) (P L ae aO wide (f+1) (.de a)) s λ_ t=>o L (.de a) s t:=by
 exact KP.bind (KP.cK (λt h=>KP.bif (λ_=>KP.ret (by dsimp only[o,aj.sl,aj.sk,aj.co];omega)) (λe=>nomatch e)) (λ_=>KP.bif (λe=>nomatch e) (λ_=>KP.bind (c.e1 .bf λe u g=>KP.bind (KP.t_ λb _=>KP.bind (KP.bif (λ_=>KP.cC λt h=>c.rs (.de (a++[e])) λd v q=>(by dsimp only[o,aj.sl,aj.sk,aj.co];omega)) (λ_=>KP.ret (c.rs (.de (a++[e])) λd v q=>(by dsimp only[o,aj.sl,aj.sk,aj.co];omega)))))))))
theorem acJ(c:fD L ae aO wide f)(a:aM)(i:s.i<=L.length):KP (En L s (.dr a) (f+1)) (P L ae aO wide (f+1) (.dr a)) s λ_ t=>o L (.dr a) s t:=by
 exact KP.bind (KP.cK (λt h=>KP.bif (λ_=>KP.ret (by dsimp only[o,aj.sl,aj.sk,aj.co];omega)) (λe=>nomatch e)) (λ_=>KP.bif (λe=>nomatch e) (λ_=>KP.bind (KP.key λk t h=>KP.bind (KP.cC λu g=>KP.bind (c.e1 .bf λe v q=>KP.bind (KP.t_ λb _=>KP.bind (KP.bif (λ_=>KP.cC λt h=>c.rs (.dr (a++[k]++[e])) λd v q=>(by dsimp only[o,aj.sl,aj.sk,aj.co];omega)) (λ_=>KP.ret (c.rs (.dr (a++[k]++[e])) λd v q=>(by dsimp only[o,aj.sl,aj.sk,aj.co];omega)))))))))))
theorem acL(a:fD L ae aO wide f)(b:s.i<=L.length):KP (En L s .paren (f+1)) (P L ae aO wide (f+1) .paren) s λ_ t=>o L .paren s t:=by
 exact KP.bind (KP.cC λt h=>KP.bind (a.e1 .bf λk u g=>KP.bind (KP.cC λv q=>KP.ret (by dsimp only[o,aj.sl,aj.sk,aj.co];omega))))
theorem acx(a:fD L ae aO wide f)(body:Bool)(b:s.i<=L.length):KP (En L s (.block body) (f+1)) (P L ae aO wide (f+1) (.block body)) s λ_ t=>o L (.block body) s t:=by
 exact KP.bind (KP.cE (KP.bind (KP.cC λt h=>KP.bind (a.rs (.gQ [] body) λc u g=>KP.ga (L:=L) O λk w e=>(by dsimp only[o,aj.sl,aj.sk,aj.co];omega)))))
theorem acy(b:fD L ae aO wide f)(a:aM)(body:Bool)(c:s.i<=L.length):KP (En L s (.gQ a body) (f+1)) (P L ae aO wide (f+1) (.gQ a body)) s λ_ t=>o L (.gQ a body) s t:=by
 exact KP.bind (KP.cK (λt h=>KP.bif (λ_=>KP.ret (by dsimp only[o,aj.sl,aj.sk,aj.co];omega)) (λe=>nomatch e)) (λ_=>KP.bif (λe=>nomatch e) (λ_=>KP.bind (b.s1 (.cw body) λk t h _=>b.rs (.gQ (a++[k]) body) λd u g=>(by dsimp only[o,aj.sl,aj.sk,aj.co];omega)))))
theorem acA(b:fD L ae aO wide f)(a:aM)(c:s.i<=L.length):KP (En L s (.fM a) (f+1)) (P L ae aO wide (f+1) (.fM a)) s λ_ t=>o L (.fM a) s t:=by
 exact KP.bind (KP.get (KP.bif (λ_=>KP.bind (b.s1 (.cw false) λk t h _=>b.rs (.fM (a++[k])) λd u g=>(by dsimp only[o,aj.sl,aj.sk,aj.co];omega))) (λ_=>KP.ret (by dsimp only[o,aj.sl,aj.sk,aj.co];omega))))
theorem acO(b:fD L ae aO wide f)(a:aM)(c:s.i<=L.length):KP (En L s (.prog a) (f+1)) (P L ae aO wide (f+1) (.prog a)) s λ_ t=>o L (.prog a) s t:=by
 exact KP.bind (KP.get (KP.bif (λ_=>KP.bind (b.s1 (.cw true) λk t h _=>((b (.prog (a++[k])) t O trivial).wk (by intro d;dsimp only[En,aj.sZ]at*;omega)).mono λi u g=>by dsimp only[o,aj.sl,aj.sk,aj.co]at g⊢;omega)) (λ_=>KP.ga (L:=L) c λk w e=>(by dsimp only[o,aj.sl,aj.sk,aj.co];omega))))
theorem acK(c:fD L ae aO wide f)(a:aM)(d:s.i<=L.length):KP (En L s (.ed a) (f+1)) (P L ae aO wide (f+1) (.ed a)) s λ_ t=>o L (.ed a) s t:=by
 have b:∀{t:ap},KS L s t->KP (En L s (.ed a) (f+1)) (gk L ae>>=λx=>iM L ae>>=λw=>dX ⟨3,w,0,[],x.au⟩>>=λk=>P L ae aO wide f (.ed (a++[k]))) t λ_ t=>o L (.ed a) s t:=λ{t}h=>KP.bind (KP.cE (KP.bind (KP.word λw u g=>KP.bind (KP.node (L:=L) O λk v q=>c.rs (.ed (a++[k])) λi y z=>(by dsimp only[o,aj.sl,aj.sk,aj.co];omega)))));exact KP.bind (KP.cK (λt h=>KP.bif (λ_=>KP.ret (by dsimp only[o,aj.sl,aj.sk,aj.co];omega)) (λe=>nomatch e)) (λ_=>KP.bif (λe=>nomatch e) (λ_=>KP.bind (KP.bif (λ_=>KP.cC λt h=>b O) (λ_=>KP.ret (b O))))))
theorem acG(a:fD L ae aO wide f)(n:Nat)(hn:n<=10)(c:s.i<=L.length):KP (En L s (.level n) (f+1)) (P L ae aO wide (f+1) (.level n)) s λ_ t=>o L (.level n) s t:=by
 refine KP.bif (λ_=>a.re .unary λb t h=>(by dsimp only[o,aj.sl,aj.sk,aj.co];omega)) (λe=>?_);have hn:n+1<=10:=by{grind};exact KP.bind (a.e1 (.level (n+1)) (hn:=hn) λk t h=>a.rs (.ig n k) (hn:=by show n<=9;omega) λb u g=>(by dsimp only[o,aj.sl,aj.sk,aj.co];omega))
theorem acH(b:fD L ae aO wide f)(n:Nat)(a:Int)(hn:n<=9)(c:s.i<=L.length):KP (En L s (.ig n a) (f+1)) (P L ae aO wide (f+1) (.ig n a)) s λ_ t=>o L (.ig n a) s t:=by
 refine KP.bind (KP.cE (KP.bif (λ_=>KP.ret (by dsimp only[o,aj.sl,aj.sk,aj.co];omega)) (λU=>KP.bind (KP.step (L:=L) (ri (ae:=ae) ?_) λt h=>KP.bind (b.e1 (.level (n+1)) (hn:=by show n+1<=10;omega) λr u g=>KP.bind (KP.fz λp=>KP.bind (KP.node (L:=L) O λk v q=>b.rs (.ig n k) (hn:=hn) λd y z=>(by dsimp only[o,aj.sl,aj.sk,aj.co];omega))))))));intro e;rw[e]at U;cases U
theorem acM(b:fD L ae aO wide f)(a:Int)(d:s.i<=L.length):KP (En L s (.eX a) (f+1)) (P L ae aO wide (f+1) (.eX a)) s λ_ t=>o L (.eX a) s t:=by
 have c:∀{t:ap}{x:aR},t.i<=L.length/\s.i<=t.i/\s.a.length<=t.a.length/\t.a.length+2*s.i+1<=s.a.length+2*t.i/\t.h=s.h/\t.loops=s.loops/\t.d=s.d->KP (En L s (.eX a) (f+1)) (dX x>>=λm=>P L ae aO wide f (.eX m)) t λ_ t=>o L (.eX a) s t:=λ{t x}h=>KP.bind (KP.node (L:=L) O λk u g=>b.rs (.eX k) λi v q=>(by dsimp only[o,aj.sl,aj.sk,aj.co];omega));refine KP.bind (KP.cK (λt h=>KP.bif (λ_=>?_) (λe=>nomatch e)) (λ_=>KP.bif (λe=>nomatch e) (λ_=>KP.bind (KP.cK (λt h=>KP.bif (λ_=>?_) (λe=>nomatch e)) (λ_=>KP.bif (λe=>nomatch e) (λ_=>KP.bind (KP.cK (λt h=>KP.bif (λ_=>?_) (λe=>nomatch e)) (λ_=>KP.bif (λe=>nomatch e) (λ_=>KP.ret (by dsimp only[o,aj.sl,aj.sk,aj.co];omega))))))))));refine KP.bind (KP.cE (KP.bind (KP.bif (λ_=>KP.e_) (λU=>KP.ret (KP.bind (KP.step (L:=L) (ri (ae:=ae) ?_) λu g=>KP.bind (KP.fz λp=>c O)))))));intro e;rw[e]at U;cases U;exact KP.bind (b.e1 .bf λe u g=>KP.bind (KP.cC λv q=>KP.bind (KP.fz λp=>c O)));exact KP.bind (b.rs (.eV [a]) λe u g=>KP.bind (KP.fz λp=>c O))
theorem acN(b:fD L ae aO wide f)(d:s.i<=L.length):KP (En L s .dL (f+1)) (P L ae aO wide (f+1) .dL) s λ_ t=>o L .dL s t:=by
 have a:∀{x:aR},s.i<L.length->KP (En L s .dL (f+1)) (fh>>=λ_=>cj x) s λ_ t=>o L .dL s t:=λ{x}h=>KP.bind (KP.step (L:=L) h λt g=>KP.ga (L:=L) O λk w e=>(by dsimp only[o,aj.sl,aj.sk,aj.co];omega));refine KP.bind (KP.cE (KP.bif (λU=>a (ri (ae:=ae) λe=>by rw[e]at U;cases U)) (λ_=>KP.bif (λU=>a (ri (ae:=ae) λe=>by rw[e]at U;cases U)) (λ_=>KP.bif (λU=>a (ri (ae:=ae) λe=>by rw[e]at U;cases U)) (λ_=>KP.bind (KP.get (KP.bif (λU=>a ?_) (λ_=>KP.bif (λU=>b.re (.func 7) (hn:=p9 U) λc t h=>(by dsimp only[o,aj.sl,aj.sk,aj.co];omega)) (λ_=>KP.bind (KP.cK (λt h=>KP.bif (λ_=>?_) (λe=>nomatch e)) (λ_=>KP.bif (λe=>nomatch e) (λ_=>KP.bind (KP.cK (λt h=>KP.bif (λ_=>?_) (λe=>nomatch e)) (λ_=>KP.bif (λe=>nomatch e) (λ_=>KP.bind (KP.cK (λt h=>KP.bif (λ_=>?_) (λe=>nomatch e)) (λ_=>KP.bif (λe=>nomatch e) (λ_=>KP.e_))))))))))))))))));rw[Bool.or_eq_true,Bool.or_eq_true]at U;rcases U with h|h|h <;> exact p9 h;exact KP.bind (b.e1 .bf λk u g=>KP.bind (KP.cC λv q=>KP.ret (by dsimp only[o,aj.sl,aj.sk,aj.co];omega)));exact KP.bind (b.rs (.de []) λc u g=>KP.ga (L:=L) O λk w e=>(by dsimp only[o,aj.sl,aj.sk,aj.co];omega));exact KP.bind (b.rs (.dr []) λc u g=>KP.ga (L:=L) O λk w e=>(by dsimp only[o,aj.sl,aj.sk,aj.co];omega))
theorem acF(a:fD L ae aO wide f)(ak:Int)(hn:s.i<L.length):KP (En L s (.func ak) (f+1)) (P L ae aO wide (f+1) (.func ak)) s λ_ t=>o L (.func ak) s t:=by
 have l:∀{t:ap}{i:ah}{au:Int},t.i<=L.length/\s.i+1<=t.i/\t.a.length=s.a.length/\t.h=s.h/\t.loops=s.loops/\t.d=s.d->KP (En L s (.func ak) (f+1)) (cu L ae lp>>=λ_=>P L ae aO wide f (.ed [])>>=λj=>fd>>=λs=>jU {s with h:=s.h+1,loops:=0,d:=0}>>=λ_=>one (P L ae aO wide f (.block true))>>=λb=>fd>>=λt=>jU {t with h:=t.h-1,loops:=s.loops,d:=s.d}>>=λ_=>cj ⟨ak,i,0,j++[b],au⟩) t λ_ t=>o L (.func ak) s t:=λ{t i au}h=>KP.bind (KP.cC λu g=>KP.bind (a.rs (.ed []) λj v q=>KP.bind (KP.get (KP.bind (Ds λy z=>KP.bind (a.e1 (.block true) λb w r=>KP.bind (KP.get (KP.bind (Ds λc d=>KP.ga (L:=L) O λk m e=>(by dsimp only[o,aj.sl,aj.sk,aj.co];omega))))))))));exact KP.bind (KP.cE (KP.bind (KP.step (L:=L) hn λt h=>KP.bind (KP.get (KP.bind (KP.bif (λ_=>KP.word λw u g=>l O) (λ_=>KP.ret (l O))))))))
theorem acW(a:fD L ae aO wide f)(hn:s.i<L.length):KP (En L s .vars (f+1)) (P L ae aO wide (f+1) .vars) s λ_ t=>o L .vars s t:=by
 exact KP.bind (KP.cE (KP.bind (KP.step (L:=L) hn λt h=>KP.bind (a.rs (.eO []) λb u g=>KP.ga (L:=L) O λk w e=>(by dsimp only[o,aj.sl,aj.sk,aj.co];omega)))))
theorem acV(b:fD L ae aO wide f)(a:aM)(i:s.i<=L.length):KP (En L s (.eO a) (f+1)) (P L ae aO wide (f+1) (.eO a)) s λ_ t=>o L (.eO a) s t:=by
 have c:∀{t:ap}{x:aR},t.i<=L.length/\s.i+1<=t.i/\s.a.length<=t.a.length/\t.a.length+2*s.i+1<=s.a.length+2*t.i/\t.h=s.h/\t.loops=s.loops/\t.d=s.d->KP (En L s (.eO a) (f+1)) (dX x>>=λk=>cT L qV>>=λh=>bif !h then ret (a++[k]) else P L ae aO wide f (.eO (a++[k]))) t λ_ t=>o L (.eO a) s t:=λ{t x}h=>KP.bind (KP.node (L:=L) O λk u g=>KP.bind (KP.cK (λv q=>KP.bif (λe=>nomatch e) (λ_=>b.rs (.eO (a++[k])) λd y z=>(by dsimp only[o,aj.sl,aj.sk,aj.co];omega))) (λ_=>KP.bif (λ_=>KP.ret (by dsimp only[o,aj.sl,aj.sk,aj.co];omega)) (λe=>nomatch e))));exact KP.bind (KP.cE (KP.bind (KP.word λw t h=>KP.bind (KP.cK (λu g=>KP.bind (KP.bif (λ_=>b.re .bf λd v q=>c O) (λe=>nomatch e))) (λ_=>KP.bind (KP.bif (λe=>nomatch e) (λ_=>KP.ret (c O))))))))
theorem acI(a:fD L ae aO wide f)(b:s.i<=L.length):KP (En L s .loop (f+1)) (P L ae aO wide (f+1) .loop) s λ_ t=>o L .loop s t:=by
 exact KP.bind (KP.get (KP.bind (Ds λt h=>KP.bind (a.s1 (.cw false) λk u g _=>KP.bind (KP.get (KP.bind (Ds λv q=>KP.ret (by dsimp only[o,aj.sl,aj.sk,aj.co];omega))))))))
theorem acB(d:fD L ae aO wide f)(au:Int)(i:s.i<=L.length):KP (En L s (.choose au) (f+1)) (P L ae aO wide (f+1) (.choose au)) s λ_ t=>o L (.choose au) s t:=by
 exact KP.bind (d.e1 .paren λc t h=>KP.bind (KP.cC λu g=>KP.bind (KP.get (KP.bind (Ds λv q=>KP.bind (d.rs (.fk [c] false) λj y z=>KP.bind (KP.get (KP.bind (Ds λa b=>KP.ga (L:=L) O λk w e=>(by dsimp only[o,aj.sl,aj.sk,aj.co];omega))))))))))
theorem ZP{v:Nat}(h:(nameV L s v&&K L s (v+1) T)=true):s.i+(v+2)<=L.length:=by
 rw[iP]at h;have:=h.2;unfold K at this;grind
theorem acE(i:fD L ae aO wide f)(au:Int)(F:s.i<=L.length):KP (En L s (.dv au) (f+1)) (P L ae aO wide (f+1) (.dv au)) s λ_ t=>o L (.dv au) s t:=by
 have key:∀{t:ap}{B:Bool},t.i<=L.length/\s.i+1<=t.i->KP (En L s (.dv au) (f+1)) (bif B then kF L ae else one (P L ae aO wide f .bf)) t λ_ u=>t.i<=u.i/\u.i<=L.length/\t.a.length<=u.a.length/\u.a.length+2*t.i<=t.a.length+2*u.i+1/\u.h=t.h/\u.loops=t.loops/\u.d=t.d:=λ{t B}h=>KP.bif (λ_=>KP.empty (L:=L) h.1 λk u g=>O) (λ_=>i.e1 .bf λk u g=>O);have l:∀{t:ap}{B C:Bool},t.i<=L.length/\s.i+1<=t.i->(B=true->t.i<L.length)->KP (En L s (.dv au) (f+1)) (bif B then one (P L ae aO wide f .vars) else bif C then kF L ae else gk L ae>>=λx=>one (P L ae aO wide f .bf)>>=λe=>dX ⟨20,.empty,0,[e],x.au⟩) t λ_ u=>t.i<=u.i/\u.i<=L.length/\t.a.length<=u.a.length/\u.a.length+2*t.i<=t.a.length+2*u.i+1/\u.h=t.h/\u.loops=t.loops/\u.d=t.d:=λ{t B C}h j=>KP.bif (λe=>i.s1 .vars (λk u g _=>O) (hn:=j e)) (λ_=>KP.bif (λ_=>KP.empty (L:=L) h.1 λk u g=>O) (λ_=>KP.bind (KP.cE (KP.bind (i.e1 .bf λe u g=>KP.node (L:=L) O λk v q=>O)))));refine KP.bind (KP.cC λt h=>KP.bind (KP.get ?_));dsimp only;refine KP.bif (λU=>?_) (λ_=>?_);exact KP.bind (acu (L:=L) (ZP U) λu g=>KP.bind (i.e1 .bf λe v q=>KP.bind (KP.cC λw r=>KP.bind (i.s1 .loop λb y z _=>KP.ga (L:=L) O λk x e=>(by dsimp only[o,aj.sl,aj.sk,aj.co];omega)))))
 ·
  refine KP.bind (KP.mono (l O λe=>p9 (t:=oi) (by revert e;cases K L t 0 oi <;> intro e <;> first|rfl|cases e)) λa u g=>KP.bind (KP.cC λv q=>KP.bind (KP.t_ λb _=>KP.bind (KP.mono (key O) λc w r=>KP.bind (KP.cC λy z=>KP.bind (KP.t_ λb _=>KP.bind (KP.mono (key O) λd m n=>KP.bind (KP.cC λp A=>KP.bind (i.s1 .loop λb D E _=>KP.ga (L:=L) O λk x e=>(by dsimp only[o,aj.sl,aj.sk,aj.co];omega))))))))))
theorem acT(d:fD L ae aO wide f)(au:Int)(p:s.i<=L.length):KP (En L s (.d5 au) (f+1)) (P L ae aO wide (f+1) (.d5 au)) s λ_ t=>o L (.d5 au) s t:=by
 have i:∀{t:ap}{x:Bool->aM->aR},t.i<=L.length/\s.i<=t.i/\s.a.length<=t.a.length/\t.a.length+2*s.i+1<=s.a.length+2*t.i/\t.h=s.h/\t.loops=s.loops/\t.d=s.d->KP (En L s (.d5 au) (f+1)) (cT L rM>>=λh=>(bif h then P L ae aO wide f (.block false) else ret [])>>=λa=>cj (x h a)) t λ_ t=>o L (.d5 au) s t:=λ{t x}h=>KP.bind (KP.cK (λu g=>KP.bind (KP.bif (λ_=>d.re (.block false) λa v q=>KP.ga (L:=L) O λk w e=>(by dsimp only[o,aj.sl,aj.sk,aj.co];omega)) (λe=>nomatch e))) (λ_=>KP.bind (KP.bif (λe=>nomatch e) (λ_=>KP.ret (KP.ga (L:=L) O λk w e=>(by dsimp only[o,aj.sl,aj.sk,aj.co];omega))))));refine KP.bind (d.e1 (.block false) λb t h=>KP.bind (KP.cK (λu g=>KP.bind (KP.bif (λ_=>?_) (λe=>nomatch e))) (λ_=>KP.bind (KP.bif (λe=>nomatch e) (λ_=>KP.ret ?_)))));refine KP.bind (KP.cC λv q=>KP.bind (KP.word λw y z=>KP.bind (KP.cC λj l=>KP.bind (d.e1 (.block false) λc m n=>KP.ret ?_))));exact KP.bind (KP.get (KP.bind (KP.bif (λ_=>KP.e_) (λ_=>KP.ret (i (x:=λh a=>⟨34-2,w,bif true then (bif h then wm else iI) else uL,[b]++[c]++a,au⟩) O)))));exact KP.bind (KP.get (KP.bind (KP.bif (λ_=>KP.e_) (λ_=>KP.ret (i (x:=λh a=>⟨34-2,.empty,bif false then (bif h then wm else iI) else uL,[b]++[]++a,au⟩) O)))))
theorem acS(d:fD L ae aO wide f)(a:aM)(seen:Bool)(l:s.i<=L.length):KP (En L s (.fk a seen) (f+1)) (P L ae aO wide (f+1) (.fk a seen)) s λ_ t=>o L (.fk a seen) s t:=by
 have i:∀{t:ap}{c:aM}{x:aM->aR}{b:Bool},t.i<=L.length/\s.i<=t.i/\s.a.length<=t.a.length/\t.a.length+2*s.i<=s.a.length+2*t.i/\t.h=s.h/\t.loops=s.loops/\t.d=s.d->KP (En L s (.fk a seen) (f+1)) (cu L ae colon>>=λ_=>P L ae aO wide f (.fM c)>>=λall=>dX (x all)>>=λk=>P L ae aO wide f (.fk (a++[k]) b)) t λ_ t=>o L (.fk a seen) s t:=λ{t c x b}h=>KP.bind (KP.cC λu g=>KP.bind (d.rs (.fM c) λall v q=>KP.bind (KP.node (L:=L) O λk w r=>d.rs (.fk (a++[k]) b) λc y z=>(by dsimp only[o,aj.sl,aj.sk,aj.co];omega))));exact KP.bind (KP.cK (λt h=>KP.bif (λ_=>KP.ret (by dsimp only[o,aj.sl,aj.sk,aj.co];omega)) (λe=>nomatch e)) (λ_=>KP.bif (λe=>nomatch e) (λ_=>KP.bind (KP.cE (KP.bind (KP.cK (λt h=>KP.bind (KP.bif (λ_=>d.re .bf λc u g=>i (x:=λall=>⟨34,.empty,_,all,_⟩) O) (λe=>nomatch e))) (λ_=>KP.bind (KP.bif (λe=>nomatch e) (λ_=>KP.bind (KP.t_ λb j=>KP.bif (λe=>KP.bind (KP.step (L:=L) (p9 (t:=uJ) (by rw[<-j];cases b <;> first|rfl|cases e)) λt h=>KP.ret (i (x:=λall=>⟨34,.empty,_,all,_⟩) O))) (λ_=>KP.e_)))))))))))
theorem acP(a:fD L ae aO wide f)(x:a8)(hn:s.i<L.length):KP (En L s (.simple x) (f+1)) (P L ae aO wide (f+1) (.simple x)) s λ_ t=>o L (.simple x) s t:=by
 refine KP.bind (KP.get (KP.bind (KP.mono (Q:=λ_ t=>t=s) (KP.bif (λ_=>KP.ret rfl) (λ_=>KP.bif (λ_=>KP.ret rfl) (λ_=>KP.bif (λ_=>KP.ret rfl) (λ_=>KP.bif (λ_=>KP.ret rfl) (λ_=>KP.e_))))) λak t e=>?_)));subst e;exact KP.bind (KP.step (L:=L) hn λu g=>KP.bind (KP.cE (KP.bind (KP.get (KP.bind (KP.bif (λ_=>KP.e_) (λ_=>KP.ret (KP.bind (KP.bif (λ_=>a.re .bf λb v q=>KP.bind (Gj (L:=L) O λw r=>KP.ga (L:=L) O λk y e=>(by dsimp only[o,aj.sl,aj.sk,aj.co];omega))) (λ_=>KP.ret (KP.bind (Gj (L:=L) O λw r=>KP.ga (L:=L) O λk y e=>(by dsimp only[o,aj.sl,aj.sk,aj.co];omega)))))))))))))
theorem acQ(d:fD L ae aO wide f)(body:Bool)(j:s.i<=L.length):KP (En L s (.cw body) (f+1)) (P L ae aO wide (f+1) (.cw body)) s λ_ t=>o L (.cw body) s t:=by
 have i:KP (En L s (.cw body) (f+1)) (one (P L ae aO wide f .bf)>>=λe=>eh L ae>>=λ_=>cj ⟨20,.empty,0,[e],(I L ae s).au⟩) s λ_ t=>o L (.cw body) s t:=KP.bind (d.e1 .bf λe t h=>KP.bind (Gj (L:=L) O λu g=>KP.ga (L:=L) O λk w r=>(by dsimp only[o,aj.sl,aj.sk,aj.co];omega)));refine KP.bind (KP.cE (KP.bind (KP.get (KP.bif (λ_=>d.re (.block false) λl t h=>(by dsimp only[o,aj.sl,aj.sk,aj.co];omega)) (λ_=>KP.bif (λU=>?_) (λ_=>?_))))));have m:=p9 U;exact KP.bind (KP.empty (L:=L) j λk t h=>KP.bind (KP.step (L:=L) O λu g=>KP.ret (by dsimp only[o,aj.sl,aj.sk,aj.co];omega)));dsimp only;refine KP.bif (λU=>?_) (λ_=>i);have j:s.i<L.length:=(ri (ae:=ae) (λe=>by rw[e]at U;cases U));refine KP.bif (λ_=>?_) (λ_=>KP.bif (λ_=>?_) (λ_=>KP.bif (λ_=>?_) (λ_=>KP.bif (λ_=>?_) (λ_=>KP.bif (λ_=>?_) (λ_=>KP.bif (λ_=>?_) (λ_=>KP.bif (λ_=>?_) (λ_=>KP.bif (λ_=>?_) (λ_=>i))))))));exact KP.bind (d.s1 .vars (λk t h _=>KP.bind (Gj (L:=L) O λu g=>KP.ret (by dsimp only[o,aj.sl,aj.sk,aj.co];omega))) (hn:=j));exact KP.mono (KP.wk (d (.simple _) s O j) (by intro n;dsimp only[En,aj.sZ]at*;omega)) λl t h=>by dsimp only[o,aj.sl,aj.sk,aj.co]at h⊢;omega
 exact KP.bif (λ_=>KP.e_) (λ_=>d.re (.func 35) (λl t h=>(by dsimp only[o,aj.sl,aj.sk,aj.co];omega)) (hn:=j));exact KP.bind (KP.step (L:=L) j λt h=>KP.bind (d.e1 .paren λc u g=>KP.bind (d.s1 (.cw false) λa v q _=>KP.bind (KP.cK (λw r=>KP.bind (KP.bif (λ_=>d.rs (.cw false) λl y z=>KP.ga (L:=L) O λk x e=>(by dsimp only[o,aj.sl,aj.sk,aj.co];omega)) (λe=>nomatch e))) (λ_=>KP.bind (KP.bif (λe=>nomatch e) (λ_=>KP.ret (KP.ga (L:=L) O λk x e=>(by dsimp only[o,aj.sl,aj.sk,aj.co];omega)))))))));exact KP.bind (KP.step (L:=L) j λt h=>KP.bind (d.e1 .paren λc u g=>KP.bind (d.s1 .loop λb v q _=>KP.ga (L:=L) O λk x e=>(by dsimp only[o,aj.sl,aj.sk,aj.co];omega))));exact KP.bind (KP.step (L:=L) j λt h=>d.rs (.dv _) λl u g=>(by dsimp only[o,aj.sl,aj.sk,aj.co];omega));exact KP.bind (KP.step (L:=L) j λt h=>d.rs (.d5 _) λl u g=>(by dsimp only[o,aj.sl,aj.sk,aj.co];omega));exact KP.bind (KP.step (L:=L) j λt h=>d.rs (.choose _) λl u g=>(by dsimp only[o,aj.sl,aj.sk,aj.co];omega))
theorem JG:∀f,fD L ae aO wide f
 |0=>λtag s _ _=>by
  unfold P;exact λe=>by
   have:1<=tag.sZ:=by cases tag <;> simp only[aj.sZ] <;> omega
   dsimp only[En]at e;omega
 |f+1=>λtag s c d=>by
  have b:=JG f;cases tag with
  |bf=>exact acD b c
  |cond=>exact acC b c
  |level n=>exact acG b n d c
  |ig n g=>exact acH b n g d c
  |unary=>exact acU b c
  |eo=>exact acw b c
  |suffix=>exact acR b c
  |eX k=>exact acM b k c
  |eV a=>exact acz b a c
  |de a=>exact acv b a c
  |dr a=>exact acJ b a c
  |dL=>exact acN b c
  |func ak=>exact acF b ak d
  |ed a=>exact acK b a c
  |block body=>exact acx b body c
  |gQ a body=>exact acy b a body c
  |paren=>exact acL b c
  |vars=>exact acW b d
  |eO a=>exact acV b a c
  |loop=>exact acI b c
  |dv au=>exact acE b au c
  |d5 au=>exact acT b au c
  |choose au=>exact acB b au c
  |fk a seen=>exact acS b a seen c
  |fM a=>exact acA b a c
  |simple x=>exact acP b x d
  |cw body=>exact acQ b body c
  |prog a=>exact acO b a c
theorem adc(f:Nat)(tag:aj)(s:ap)(a:s.i<=L.length)(hn:tag.ct L s)(ks:aM)(t:ap)(e:P L ae aO wide f tag s= .ok ks t):o L tag s t:=KP.ok (JG f tag s a hn) e
theorem Xl(b:s.i<=L.length)(hn:tag.ct L s)(a:24*(L.length-s.i)+tag.sZ<=f):P L ae aO wide f tag s≠.out:=λe=>by
 have h:=JG (ae:=ae) (aO:=aO) (wide:=wide) f tag s b hn;unfold KP at h;rw[e]at h;exact h a
theorem Xo(a:s.i<=L.length)(hn:tag.ct L s)(p:Int)(t:ap):P L ae aO wide f tag s≠.stop p 0 t:=λe=>by
 have h:=JG (ae:=ae) (aO:=aO) (wide:=wide) f tag s a hn;unfold KP at h;rw[e]at h;exact h rfl
end
end
section
structure Vw where
 A:List a8
 B:List a8
 b:Int
 d:Int
 n:Nat
 dA:Nat
 dB:Nat
 M:List aR
 kp:Bool
 a:Bool
 aO:Nat->ah
 wide:ah->ah
abbrev Vw.PA(V:Vw):Nat->aj->j (aM):=P V.A V.b V.aO V.wide
abbrev Vw.PB(V:Vw):Nat->aj->j (aM):=P V.B V.d V.aO V.wide
def Vw.c(V:Vw):Int:=V.M.length
def Vw.TR(V:Vw)(x y:a8):Prop:=y.ak=x.ak/\y.aJ=x.aJ/\y.aT=x.aT/\y.aB=x.aB/\(V.kp=true->y.au=x.au)
def Vw.XR(V:Vw)(x y:aR):Prop:=y.ak=x.ak/\y.op=x.op/\y.aT=x.aT/\y.b=x.b.map (·+V.c)/\(V.kp=true->y.au=x.au)
def Vw.rq(V:Vw)(p q:Int):Prop:=V.kp=true->q=p
structure Vw.Ok(V:Vw):Prop where
 toks:∀i,i<V.n->∃x y,V.A[i+V.dA]?=some x/\V.B[i+V.dB]?=some y/\V.TR x y
 qZ:V.a=false->V.A[V.n+V.dA]?=none
 G9:V.a=true->∃y,V.A[V.n+V.dA]?=some y/\y.ak=5/\y.aJ=rp
 Bz:V.B[V.n+V.dB]?=none\/∃y,V.B[V.n+V.dB]?=some y/\y.ak=5/\y.aB=true/\(y.aJ=rp\/y.aJ=dt)
 aqM:V.a=true->V.B[V.n+V.dB]?=none
 akt:V.a=true->∀i x,V.dA<=i->V.A[i]?=some x->((x.ak==5||x.ak==2)&&bx x.aJ lp)=false
 aks:∀x,V.B[V.n+V.dB+1]?=some x->((x.ak==5||x.ak==2)&&bx x.aJ C4)=false
structure Vw.NR(V:Vw)(s t:ap):Prop where
 len:t.a.length=V.M.length+s.a.length
 hd:t.a.take V.M.length=V.M
 get:∀k x,s.a[k]?=some x->∃y,t.a[V.M.length+k]?=some y/\V.XR x y
 h:t.h=s.h
 loops:t.loops=s.loops
 d:t.d=s.d
structure Vw.R(V:Vw)(s t:ap):Prop extends V.NR s t where
 at_:∃i,i<=V.n/\s.i=i+V.dA/\t.i=i+V.dB
structure Vw.o_(V:Vw)(s t:ap):Prop extends V.NR s t where
 sA:s.i=V.n+V.dA
 tB:t.i=V.n+V.dB+1
 Hh:V.a=false
def Vw.VR(V:Vw)(k l:Int):Prop:=0<=k/\l=k+V.c
def Vw.LR(V:Vw)(r q:aM):Prop:=q=r.map (·+V.c)/\∀k,k∈r->0<=k
def SR{α:Type}(m m':j α)(s s':ap)(Q:α->ap->α->ap->Prop):Prop:=∀a t,m s= .ok a t->∃b c,m' s'= .ok b c/\Q a t b c
def NO{α:Type}(m:j α)(s:ap):Prop:=∀a t,m s≠.ok a t
section
variable{α β:Type}{m m':j α}{s s':ap}{Q:α->ap->α->ap->Prop}{V:Vw}
theorem SR.no(h:NO m s):SR m m' s s' Q:=λa t e=>absurd e (h a t)
theorem SR.mono{d:α->ap->α->ap->Prop}(h:SR m m' s s' Q)(k:∀a t b c,Q a t b c->d a t b c):SR m m' s s' d:=λa t e=>let ⟨b,c,f,g⟩:=h a t e;⟨b,c,f,k _ _ _ _ g⟩
theorem SR.bind{f g:α->j β}{Q:β->ap->β->ap->Prop}(h:SR m m' s s' λa t i k=>SR (f a) (g i) t k Q):SR (m>>=f) (m'>>=g) s s' Q:=by
 intro b u e;have c:bP m f s= .ok b u:=e;unfold bP at c;cases d:m s with
 |ok a t=>
  rw[d]at c;obtain⟨i,k,r,n⟩:=h a t d;obtain⟨l,q,v,o⟩:=n b u c;refine⟨l,q, ?_,o⟩;show bP m' g s'=_;unfold bP;simp[*]
 |stop p x t=>rw[d]at c;cases c
 |out=>rw[d]at c;cases c
theorem SR.ret{a c:α}(h:Q a s c s'):SR (ret a) (ret c) s s' Q:=by
 intro b t e;cases e;exact⟨c,s',rfl,h⟩
variable{b:Bool}{T:ah}{x y:aR}{ae k k':Int}{L:List a8}{s2 t t2:ap}
theorem SR.bif{a:Bool}{n c:j α}(e:b=a)(d:b=true->a=true->SR m m' s s' Q)(f:b=false->a=false->SR n c s s' Q):SR (bif b then m else n) (bif a then m' else c) s s' Q:=by
 grind
theorem NO.bind{f:α->j β}(h:NO m s):NO (m>>=f) s:=by
 intro b u e;have c:bP m f s= .ok b u:=e;unfold bP at c;cases d:m s with
 |ok a t=>exact h a t d
 |stop p x t=>rw[d]at c;cases c
 |out=>rw[d]at c;cases c
theorem uW{f:α->j β}(h:∀a t,m s= .ok a t->NO (f a) t):NO (m>>=f) s:=by
 intro b u e;have c:bP m f s= .ok b u:=e;unfold bP at c;cases d:m s with
 |ok a t=>rw[d]at c;exact h a t d _ _ c
 |stop p x t=>rw[d]at c;cases c
 |out=>rw[d]at c;cases c
theorem NO.bif{n:j α}(a:b=true->NO m s)(c:b=false->NO n s):NO (bif b then m else n) s:=by
 grind
theorem NO.out:NO (SJ:j α) s:=λ_ _ e=>by cases e
theorem NO.e_:NO (ju L ae:j α) s:=λ_ _ e=>by cases e
theorem NO.one{m:j (aM)}(h:NO m s):NO (one m) s:=NO.bind h
theorem q_(h:L[s.i]?=none)(T:ah):K L s 0 T=false:=by
 unfold K;simp[*]
theorem yY(h:L[s.i]?=none):I L ae s=⟨0,.empty,0,ae,false⟩:=by
 unfold I;simp[*]
theorem OP{y:a8}(h:L[s.i]?=some y)(b:y.aJ=rp)(a:bx rp T=false):K L s 0 T=false:=by
 unfold K;simp[*]
theorem Vw.NR.Yl(h:0<=k):(k+V.c).toNat=V.M.length+k.toNat:=by
 unfold Vw.c;omega
theorem Vw.NR.ak{V:Vw}{s:ap}(h:V.NR s t)(U:0<=k):uc t (k+V.c)=uc s k:=by
 unfold uc;rw[Vw.NR.Yl U];cases a:s.a[k.toNat]? with
 |some x=>
  obtain⟨y,c,b⟩:=h.get _ _ a;rw[c];exact b.1
 |none=>
  have:t.a[V.M.length+k.toNat]?=none:=by{rw[List.getElem?_eq_none_iff]at a⊢;rw[h.len];omega};rw[this]
theorem Vw.NR.au{V:Vw}{s:ap}(h:V.NR s t)(U:0<=k):V.rq (dG s k) (dG t (k+V.c)):=by
 intro a;unfold dG;rw[Vw.NR.Yl U];cases b:s.a[k.toNat]? with
 |some x=>
  obtain⟨y,d,c⟩:=h.get _ _ b;rw[d];exact c.2.2.2.2 a
 |none=>
  have:t.a[V.M.length+k.toNat]?=none:=by{rw[List.getElem?_eq_none_iff]at b⊢;rw[h.len];omega};rw[this]
theorem Vw.NR.push{V:Vw}{s:ap}(h:V.NR s t)(g:V.XR x y)(e1:s2.a=s.a++[x])(b:t2.a=t.a++[y])(d:t2.h=s2.h)(e:t2.loops=s2.loops)(f:t2.d=s2.d):V.NR s2 t2:=by
 refine⟨by rw[e1,b];simp[h.len];omega, ?_,λk z a=>?_,d,e,f⟩;rw[b,List.take_append_of_le_length (by rw[h.len];omega)];exact h.hd;rw[e1]at a;rw[b];by_cases U:k<s.a.length;rw[m5 U]at a;obtain⟨w,j,i⟩:=h.get _ _ a;grind;rw[lQ O]at a;have c:k-s.a.length=0:=by{grind};rw[c]at a;simp only[List.getElem?_cons_zero,Option.some.injEq]at a;subst a;refine⟨y, ?_,g⟩;rw[lQ (by rw[h.len];omega)];have:V.M.length+k-t.a.length=0:=by rw[h.len];omega
 simp[*]
theorem Vw.NR.same{V:Vw}{s:ap}(h:V.NR s t)(e1:s2.a=s.a:=by rfl)(a:t2.a=t.a:=by rfl)(c:t2.h=s2.h:=by first|exact h.h|assumption)(d:t2.loops=s2.loops:=by first|exact h.loops|assumption)(e:t2.d=s2.d:=by first|exact h.d|assumption):V.NR s2 t2:=by
 refine⟨by rw[e1,a];exact h.len,by rw[a];exact h.hd,λk x b=>?_,c,d,e⟩;rw[e1]at b;rw[a];exact h.get k x b
theorem Vw.R.step{V:Vw}{s:ap}(h:V.R s t)(a:s.i<V.n+V.dA):V.R {s with i:=s.i+1} {t with i:=t.i+1}:=by
 obtain⟨i,b,c,d⟩:=h.at_;exact⟨h.toNR.same,i+1,O,by grind,by grind⟩
theorem Vw.R.push{V:Vw}{s:ap}(h:V.R s t)(d:V.XR x y):V.R {s with a:=s.a++[x]} {t with a:=t.a++[y]}:=by
 obtain⟨i,a,b,c⟩:=h.at_;exact⟨h.toNR.push d rfl rfl h.h h.loops h.d,i,a,b,c⟩
theorem Vw.o_.push{V:Vw}{s:ap}(h:V.o_ s t)(a:V.XR x y):V.o_ {s with a:=s.a++[x]} {t with a:=t.a++[y]}:=
 ⟨h.toNR.push a rfl rfl h.h h.loops h.d,h.sA,h.tB,h.Hh⟩
theorem Vw.NR.vr{V:Vw}{s:ap}(h:V.NR s t):V.VR s.a.length t.a.length:=⟨O,by rw[h.len];unfold Vw.c;omega⟩
theorem Vw.R.tok{V:Vw}(a:V.Ok){s:ap}(h:V.R s t):(s.i<V.n+V.dA/\∃x y,V.A[s.i]?=some x/\V.B[t.i]?=some y/\V.TR x y)\/(s.i=V.n+V.dA/\t.i=V.n+V.dB):=by
 obtain⟨i,c,d,e⟩:=h.at_;by_cases b:i<V.n;obtain⟨x,y,g,j,f⟩:=a.toks i b;simp[*];omega
theorem Vw.TR.is{V:Vw}{x y:a8}(h:V.TR x y)(T:ah):((y.ak==5||y.ak==2)&&bx y.aJ T)=((x.ak==5||x.ak==2)&&bx x.aJ T):=by
 rw[h.1,h.2.1]
theorem Vw.R.isLt{V:Vw}(a:V.Ok){s:ap}(h:V.R s t)(b:s.i<V.n+V.dA)(T:ah):K V.A s 0 T=K V.B t 0 T:=by
 rcases h.tok a with⟨_,x,y,d,f,c⟩| ⟨e,_⟩;unfold K;simp only[Nat.add_zero,d,f];exact(c.is T).symm;omega
def ug(T:ah):Bool:= !bx rp T&& !bx dt T
theorem Vw.Ok.Zj{V:Vw}(a:V.Ok){s:ap}(e:s.i=V.n+V.dA)(c:bx rp T=false):K V.A s 0 T=false:=by
 cases b:V.a with
 |false=>exact q_ (by rw[e];exact a.qZ b) T
 |true=>
  obtain⟨y,f,_,d⟩:=a.G9 b;exact OP (y:=y) (by simp[*]) d c
theorem Vw.Ok.isB{V:Vw}(b:V.Ok)(e:t.i=V.n+V.dB)(a:ug T=true):K V.B t 0 T=false:=by
 unfold ug at a;rcases b.Bz with h| ⟨y,d,_,_,c⟩;exact q_ (by simp[*]) T;unfold K;grind
theorem Vw.R.is{V:Vw}(a:V.Ok){s:ap}(h:V.R s t)(c:ug T=true):K V.A s 0 T=K V.B t 0 T:=by
 rcases h.tok a with⟨b,_⟩| ⟨e1,d⟩;exact h.isLt a b T;rw[a.Zj e1 (by unfold ug at c;grind),a.isB d c]
theorem Vw.R.ZG{V:Vw}(b:V.Ok){s:ap}(h:V.R s t)(d:bx rp T=false)(c:K V.A s 0 T=true):s.i<V.n+V.dA:=by
 rcases h.tok b with⟨a,_⟩| ⟨e1,_⟩;exact a;rw[b.Zj e1 d]at c;cases c
theorem Vw.R.ajB{V:Vw}(b:V.Ok)(d:V.a=false){s:ap}(h:V.R s t)(c:K V.A s 0 T=true):s.i<V.n+V.dA:=by
 rcases h.tok b with⟨a,_⟩| ⟨e1,_⟩;exact a;rw[q_ (by rw[e1];exact b.qZ d) T]at c;cases c
theorem SR.cK(f:V.Ok)(h:V.R s s')(d:ug T=true){Q:Bool->ap->Bool->ap->Prop}
  (j:∀t g,V.R t g->K V.A s 0 T=true->Q true t true g) (i:K V.A s 0 T=false->Q false s false s'):SR (cT V.A T) (cT V.B T) s s' Q:=by
 intro a t e;have c:bx rp T=false:=by unfold ug at d;grind
 unfold cT at*;rw[<-h.is f d];cases b:K V.A s 0 T with
 |true=>
  rw[b]at e;cases e;exact⟨true,_,rfl,j _ _ (h.step (h.ZG f c b)) b⟩
 |false=>rw[b]at e;cases e;exact⟨false,_,rfl,i b⟩
theorem yH(i:V.Ok)(h:V.R s s')(b:s.i<V.n+V.dA){Q:Bool->ap->Bool->ap->Prop}
  (g:∀t d,V.R t d->K V.A s 0 T=true->Q true t true d) (f:K V.A s 0 T=false->Q false s false s'):SR (cT V.A T) (cT V.B T) s s' Q:=by
 intro a t e;unfold cT at*;rw[<-h.isLt i b];cases c:K V.A s 0 T with
 |true=>rw[c]at e;cases e;exact⟨true,_,rfl,g _ _ (h.step b) c⟩
 |false=>rw[c]at e;cases e;exact⟨false,_,rfl,f c⟩
theorem SR.cC(f:V.Ok)(h:V.R s s')(d:ug T=true){Q:ax->ap->ax->ap->Prop}
  (i:∀t g,V.R t g->Q () t () g):SR (cu V.A V.b T) (cu V.B V.d T) s s' Q:=by
 intro a t e;have b:bx rp T=false:=by unfold ug at d;grind
 unfold cu at*;rw[<-h.is f d];cases c:K V.A s 0 T with
 |true=>rw[c]at e;cases e;exact⟨(),_,rfl,i _ _ (h.step (h.ZG f b c))⟩
 |false=>rw[c]at e;cases e
theorem A5(d:V.Ok)(i:V.a=false)(h:V.R s s'){Q:ax->ap->ax->ap->Prop}
  (g:∀t f,V.R t f->Q () t () f):SR (cu V.A V.b T) (cu V.B V.d T) s s' Q:=by
 intro a t e;unfold cu at*;cases c:K V.A s 0 T with
 |true=>
  have b:=h.ajB d i c;rw[<-h.isLt d b,c];rw[c]at e;cases e;exact⟨(),_,rfl,g _ _ (h.step b)⟩
 |false=>rw[c]at e;cases e
theorem SR.is(d:V.Ok)(h:V.R s s')(c:ug T=true){Q:Bool->ap->Bool->ap->Prop}
  (b:Q (K V.A s 0 T) s (K V.A s 0 T) s'):SR (jM V.A 0 T) (jM V.B 0 T) s s' Q:=by
 intro a t e;cases e;exact⟨_,_,by unfold jM;rw[<-h.is d c],b⟩
theorem SR.isLt(d:V.Ok)(h:V.R s s')(b:s.i<V.n+V.dA){Q:Bool->ap->Bool->ap->Prop}
  (c:Q (K V.A s 0 T) s (K V.A s 0 T) s'):SR (jM V.A 0 T) (jM V.B 0 T) s s' Q:=by
 intro a t e;cases e;exact⟨_,_,by unfold jM;rw[<-h.isLt d b],c⟩
theorem SR.cE{Q:a8->ap->a8->ap->Prop}(h:Q (I V.A V.b s) s (I V.B V.d s') s'):SR (gk V.A V.b) (gk V.B V.d) s s' Q:=by
 intro a t e;cases e;exact⟨_,_,rfl,h⟩
theorem SR.get{Q:ap->ap->ap->ap->Prop}(h:Q s s s' s'):SR fd fd s s' Q:=by
 intro a t e;cases e;exact⟨_,_,rfl,h⟩
theorem SR.set{u b:ap}{Q:ax->ap->ax->ap->Prop}(h:Q () u () b):SR (jU u) (jU b) s s' Q:=by
 intro a t e;cases e;exact⟨_,_,rfl,h⟩
theorem SR.step(h:V.R s s')(b:s.i<V.n+V.dA){Q:ax->ap->ax->ap->Prop}(d:∀t c,V.R t c->Q () t () c):SR fh fh s s' Q:=by
 intro a t e;cases e;exact⟨_,_,rfl,d _ _ (h.step b)⟩
theorem SR.fz(h:V.NR s s')(U:V.VR k k'){Q:Int->ap->Int->ap->Prop}(c:∀p b,V.rq p b->Q p s b s'):SR (fz k) (fz k') s s' Q:=by
 intro a t e;cases e;exact⟨_,_,rfl,c _ _ (by rw[U.2];exact h.au U.1)⟩
theorem SR.oS(h:V.NR s s')(U:V.VR k k'){Q:ax->ap->ax->ap->Prop}(c:Q () s () s'):SR (mD k b) (mD k' b) s s' Q:=by
 intro a t e;unfold mD at*;rw[U.2,h.ak U.1];grind
theorem SR.node(h:V.R s s')(d:V.XR x y){Q:Int->ap->Int->ap->Prop}(c:∀k t k' b,V.VR k k'->V.R t b->Q k t k' b):SR (dX x) (dX y) s s' Q:=by
 intro a t e;cases e;exact⟨_,_,rfl,c _ _ _ _ h.vr (h.push d)⟩
theorem ll{x:a8}(h:L[s.i]?=some x):I L ae s=x:=by unfold I;rw[h];rfl
theorem SR.word(d:V.Ok)(h:V.R s s'){Q:ah->ap->ah->ap->Prop}(k:∀w t j,V.R t j->Q w t w j):SR (iM V.A V.b) (iM V.B V.d) s s' Q:=by
 intro a t e;unfold iM at*;cases U:(I V.A V.b s).ak !=1 with
 |true=>rw[U]at e;cases e
 |false=>
  rw[U]at e;cases e;have b:(I V.A V.b s).ak=1:=by grind
  rcases h.tok d with⟨g,x,y,l,i,c⟩| ⟨e1,_⟩;rw[ll l]at b⊢;rw[ll i,c.1,b,c.2.1];exact⟨_,_,rfl,k _ _ _ (h.step g)⟩;cases c:V.a with
  |false=>rw[yY (by rw[e1];exact d.qZ c)]at b;cases b
  |true=>
   obtain⟨y,i,f,_⟩:=d.G9 c;rw[ll (x:=y) (by simp[*]),f]at b;cases b
theorem SR.key(d:V.Ok)(h:V.R s s'){Q:Int->ap->Int->ap->Prop}(n:∀k t k' c,V.VR k k'->V.R t c->Q k t k' c):SR (ec V.A V.b V.aO V.wide) (ec V.B V.d V.aO V.wide) s s' Q:=by
 intro a t e;rcases h.tok d with⟨g,x,y,p,m,b⟩| ⟨e1,_⟩;unfold ec at*;rw[ll p]at e;rw[ll m];dsimp only at e⊢;rw[b.1,b.2.1,b.2.2.1];have go:∀(o:ah),dX ⟨2,o,0,[],x.au⟩ {s with i:=s.i+1}= .ok a t->∃j c,dX ⟨2,o,0,[],y.au⟩ {s' with i:=s'.i+1}= .ok j c/\Q a t j c:=λo e=>by
  cases e;have l:=h.step g;exact⟨_,_,rfl,n _ _ _ _ l.vr (l.push ⟨rfl,rfl,rfl,rfl,b.2.2.2.2⟩)⟩
 grind;unfold ec at e;dsimp only at e;cases b:V.a with
 |false=>rw[yY (by rw[e1];exact d.qZ b)]at e;cases e
 |true=>
  obtain⟨y,m,f,_⟩:=d.G9 b;rw[ll (x:=y) (by simp[*]),f]at e;cases e
theorem Vw.R.ask{V:Vw}(b:V.Ok){s:ap}(h:V.R s t)(g:Int->ah->Bool->Bool)(c:∀l i,g 0 .empty l=g 5 rp i/\g 0 .empty l=g 5 dt i):
  g (I V.A V.b s).ak (I V.A V.b s).aJ (I V.A V.b s).aB=g (I V.B V.d t).ak (I V.B V.d t).aJ (I V.B V.d t).aB:=by
 rcases h.tok b with⟨k,x,y,m,e,a⟩| ⟨e1,n⟩;rw[ll m,ll e,a.1,a.2.1,a.2.2.2.1];have j:∀l,g 0 .empty l=g (I V.B V.d t).ak (I V.B V.d t).aJ (I V.B V.d t).aB:=by{intro l;rcases b.Bz with h| ⟨y,e,U,o,f⟩;rw[yY (by simp[*])];exact((c l l).1).trans ((c false l).1).symm;rw[ll (x:=y) (by simp[*]),U];grind};cases a:V.a with
 |false=>rw[yY (by rw[e1];exact b.qZ a)];exact j _
 |true=>
  obtain⟨y,e,d,f⟩:=b.G9 a;rw[ll (x:=y) (by simp[*]),d,f,<-(c y.aB y.aB).1];simp[*]
theorem Vw.R.pz{V:Vw}(a:V.Ok){s:ap}(h:V.R s t)(b:s.i<V.n+V.dA):V.TR (I V.A V.b s) (I V.B V.d t):=by
 rcases h.tok a with⟨_,x,y,d,e,c⟩| ⟨e1,_⟩;rw[ll d,ll e];exact c;omega
end
end
section
def aj.ex:aj->Bool
 | .bf| .cond| .level _| .ig _ _| .unary| .eo| .suffix| .eX _| .de _| .dr _| .dL=>true
 |_=>false
def aj.Aw:aj->Bool
 | .eV _| .de _| .dr _| .ed _| .gQ _ _| .eO _| .fk _ _| .fM _=>false
 |_=>true
def aj.yW:aj->Bool
 | .cw _| .simple _| .loop| .dv _=>true
 |_=>false
inductive Vw.GR(V:Vw):aj->aj->Prop
 |bf:GR V .bf .bf
 |cond:GR V .cond .cond
 |level n:GR V (.level n) (.level n)
 |ig n {k l} (h:V.VR k l):GR V (.ig n k) (.ig n l)
 |unary:GR V .unary .unary
 |eo:GR V .eo .eo
 |suffix:GR V .suffix .suffix
 |eX {k l} (h:V.VR k l):GR V (.eX k) (.eX l)
 |eV {k l} (h:V.LR k l):GR V (.eV k) (.eV l)
 |de {k l} (h:V.LR k l):GR V (.de k) (.de l)
 |dr {k l} (h:V.LR k l):GR V (.dr k) (.dr l)
 |dL:GR V .dL .dL
 |func k:GR V (.func k) (.func k)
 |ed {k l} (h:V.LR k l):GR V (.ed k) (.ed l)
 |block b:GR V (.block b) (.block b)
 |gQ b {k l} (h:V.LR k l):GR V (.gQ k b) (.gQ l b)
 |paren:GR V .paren .paren
 |vars:GR V .vars .vars
 |eO {k l} (h:V.LR k l):GR V (.eO k) (.eO l)
 |loop:GR V .loop .loop
 |dv {p q} (h:V.rq p q):GR V (.dv p) (.dv q)
 |d5 {p q} (h:V.rq p q):GR V (.d5 p) (.d5 q)
 |choose {p q} (h:V.rq p q):GR V (.choose p) (.choose q)
 |fk b {k l} (h:V.LR k l):GR V (.fk k b) (.fk l b)
 |fM {k l} (h:V.LR k l):GR V (.fM k) (.fM l)
 |simple {x y} (h:V.TR x y):GR V (.simple x) (.simple y)
 |cw b:GR V (.cw b) (.cw b)
def Vw.dz(V:Vw)(tag:aj):aM->ap->aM->ap->Prop:=λr t b a=>V.LR r b/\(tag.Aw=true->r.length=1)/\(V.R t a\/(tag.yW=true/\V.o_ t a))
def Vw.pre(V:Vw)(s:ap):aj->Prop
 | .func _| .vars| .simple _=>s.i<V.n+V.dA
 |_=>True
def Vw.fL(V:Vw)(f:Nat):Prop:=∀(a b:aj)(s s':ap)(g:Nat),f<=g->V.GR a b->(V.a=true->a.ex=true)->V.pre s a->V.R s s'->SR (V.PA f a) (V.PB g b) s s' (V.dz a)
section
variable{L:List a8}{ae:Int}{aO:Nat->ah}{wide:ah->ah}{α β:Type}{s:ap}
theorem NO.cE{f:a8->j β}(h:NO (f (I L ae s)) s):NO (gk L ae>>=f) s:=uW λa t e=>by cases e;exact h
theorem NO.get{f:ap->j β}(h:NO (f s) s):NO (fd>>=f) s:=uW λa t e=>by cases e;exact h
theorem Xh{T:ah}{f:Bool->j β}(h:NO (f (K L s 0 T)) s):NO (jM L 0 T>>=f) s:=uW λa t e=>by cases e;exact h
theorem NO.cK{T:ah}{f:Bool->j β}(b:K L s 0 T=false)(h:NO (f false) s):NO (cT L T>>=f) s:=uW λa t e=>by
 unfold cT at e;rw[b]at e;cases e;exact h
theorem NO.cC{T:ah}(b:K L s 0 T=false):NO (cu L ae T) s:=λa t e=>by
 unfold cu at e;rw[b]at e;cases e
def nA(L:List a8)(s:ap):Prop:=L[s.i]?=none\/∃y,L[s.i]?=some y/\y.ak=5/\y.aJ=rp
theorem nA.is(h:nA L s){T:ah}(a:bx rp T=false):K L s 0 T=false:=by
 rcases h with h| ⟨y,h,_,b⟩;exact q_ h T;exact OP h b a
theorem nA.ask(h:nA L s)(g:Int->ah->Bool){b:Bool}(a:g 0 .empty=b)(c:g 5 rp=b):g (I L ae s).ak (I L ae s).aJ=b:=by
 rcases h with h| ⟨y,h,U,d⟩;rw[yY h];exact a;rw[ll h,U,d];exact c
theorem nA.word(h:nA L s):NO (iM L ae) s:=λa t e=>by
 unfold iM at e;rw[h.ask (λk _=>k !=1) (b:=true) rfl rfl]at e;cases e
theorem nA.key(h:nA L s):NO (ec L ae aO wide) s:=λa t e=>by
 unfold ec at e;dsimp only at e;rw[h.ask (λk _=>k==1||k==2) (b:=false) rfl rfl,h.ask (λk _=>k==3) (b:=false) rfl rfl,h.ask (λk _=>k==4) (b:=false) rfl rfl]at e;cases e
def aj.ZU:aj->Bool
 | .bf| .cond| .level _| .unary| .eo| .suffix| .dL| .de _| .dr _=>true
 |_=>false
theorem SA:∀(f:Nat)(c:aj),c.ZU=true->nA L s->NO (P L ae aO wide f c) s:=by
 intro f
 induction f with
 |zero=>intro c _ _;rw[P];exact NO.out
 |succ f d=>
  intro c g a;cases c with
  |bf=>rw[P];exact NO.bind (NO.one (d _ rfl a))
  |cond=>rw[P];exact NO.bind (NO.one (d _ rfl a))
  |level n=>rw[P];exact NO.bif (λ_=>d _ rfl a) (λ_=>NO.bind (NO.one (d _ rfl a)))
  |unary=>
   refine NO.cE (NO.bif (λ_=>d _ rfl a) (λ_=>NO.bif (λh=>?_) (λ_=>NO.bif (λh=>?_) (λ_=>d _ rfl a))));rw[a.ask (λ_ t=>cI wu t) (b:=false) rfl rfl]at h;cases h;rw[a.ask (λ_ t=>cI [pp,mm] t) (b:=false) rfl rfl]at h;cases h
  |eo=>rw[P];exact NO.bind (NO.one (d _ rfl a))
  |suffix=>rw[P];exact NO.bind (NO.one (d _ rfl a))
  |dL=>
   refine NO.cE (NO.bif (λh=>?_) (λ_=>NO.bif (λh=>?_) (λ_=>NO.bif (λh=>?_) (λ_=>NO.get (NO.bif (λh=>?_) (λ_=>NO.bif (λh=>?_) (λ_=>?_)))))));rw[a.ask (λk _=>k==3) (b:=false) rfl rfl]at h;cases h;rw[a.ask (λk _=>k==4) (b:=false) rfl rfl]at h;cases h;rw[a.ask (λk _=>k==1) (b:=false) rfl rfl]at h;cases h;rw[a.is rfl,a.is rfl,a.is rfl]at h;cases h;rw[a.is rfl]at h;cases h;exact NO.cK (a.is rfl) (NO.bif (λe=>nomatch e) (λ_=>NO.cK (a.is rfl) (NO.bif (λe=>nomatch e) (λ_=>NO.cK (a.is rfl) (NO.bif (λe=>nomatch e) (λ_=>NO.e_))))))
  |de k=>rw[P];exact NO.cK (a.is rfl) (NO.bif (λe=>nomatch e) (λ_=>NO.bind (NO.one (d _ rfl a))))
  |dr k=>rw[P];exact NO.cK (a.is rfl) (NO.bif (λe=>nomatch e) (λ_=>NO.bind a.key))
  |_=>cases g
def aj.akb:aj->Bool
 | .eV _| .ed _| .block _| .gQ _ _| .paren| .eO _| .loop| .fk _ _| .fM _| .cw _=>true
 |t=>t.ZU
theorem rl:∀(f:Nat)(c:aj){s:ap},c.akb=true->L[s.i]?=none->NO (P L ae aO wide f c) s:=by
 intro f
 induction f with
 |zero=>intro c s _ _;rw[P];exact NO.out
 |succ f i=>
  intro c s l d;have j:nA L s:=.inl d;have is:=λT=>q_ d T;have m:I L ae s=⟨0,.empty,0,ae,false⟩:=yY d;cases c with
  |eV k=>rw[P];exact NO.cK (is _) (NO.bif (λe=>nomatch e) (λ_=>uW λa t e=>by
    cases g:decide (k.length>1)with
    |true=>rw[g]at e;exact absurd e (NO.cC (is _) _ _)
    |false=>rw[g]at e;cases e;exact NO.bind (NO.one (i _ rfl d))))
  |ed k=>rw[P];exact NO.cK (is _) (NO.bif (λe=>nomatch e) (λ_=>uW λa t e=>by
    cases g:decide (k.length>0)with
    |true=>rw[g]at e;exact absurd e (NO.cC (is _) _ _)
    |false=>rw[g]at e;cases e;exact NO.cE (NO.bind j.word)))
  |block b=>rw[P];exact NO.cE (NO.bind (NO.cC (is _)))
  |gQ k b=>rw[P];exact NO.cK (is _) (NO.bif (λe=>nomatch e) (λ_=>NO.bind (NO.one (i _ rfl d))))
  |paren=>rw[P];exact NO.bind (NO.cC (is _))
  |eO k=>rw[P];exact NO.cE (NO.bind j.word)
  |loop=>rw[P];exact NO.get (uW λa t e=>by cases e;exact NO.bind (NO.one (i _ rfl d)))
  |fk k b=>
   refine NO.cK (is _) (NO.bif (λe=>nomatch e) (λ_=>NO.cE (NO.cK (is _) (NO.bind (NO.bif (λe=>nomatch e) (λ_=>Xh ?_))))));rw[is];exact NO.bif (λe=>nomatch e) (λ_=>NO.e_)
  |fM k=>
   refine NO.get (NO.bif (λ_=>NO.bind (NO.one (i _ rfl d))) (λh=>?_));grind
  |cw b=>
   refine NO.cE (NO.get (NO.bif (λh=>?_) (λ_=>NO.bif (λh=>?_) (λ_=>?_))));grind;grind;dsimp only;refine NO.bif (λh=>?_) (λ_=>NO.bind (NO.one (i _ rfl d)));grind
  |_=>exact SA _ _ l j
end
section
variable{V:Vw}{s s':ap}{f g:Nat}
theorem Vw.R.KQ(a:V.Ok)(h:V.R s s'):nA V.A s\/s.i<V.n+V.dA:=by
 rcases h.tok a with⟨f,_⟩| ⟨e,_⟩;omega;cases b:V.a with
 |false=>exact .inl (.inl (by rw[e];exact a.qZ b))
 |true=>
  obtain⟨y,g,c,d⟩:=a.G9 b;exact .inl (.inr ⟨y,by simp[*],c,d⟩)
theorem Vw.R.pr(a:V.Ok)(b:V.a=false)(h:V.R s s'):V.A[s.i]?=none\/s.i<V.n+V.dA:=by
 rcases h.tok a with⟨c,_⟩| ⟨e,_⟩;omega;exact .inl (by rw[e];exact a.qZ b)
theorem Vw.R.Sr(f:V.Ok)(h:V.R s s')(g:Int->ah->Bool->Bool)(b:Bool)(d:g 0 .empty false= !b)(e:∀l,g 5 rp l= !b)(c:g (I V.A V.b s).ak (I V.A V.b s).aJ (I V.A V.b s).aB=b):s.i<V.n+V.dA:=by
 rcases h.KQ f with a|i;rcases a with a| ⟨y,a,U,j⟩;rw[yY a,d]at c;cases b <;> cases c;rw[ll a,U,j,e]at c;cases b <;> cases c;omega
theorem Vw.TR.au{x y:a8}(h:V.TR x y):V.rq x.au y.au:=h.2.2.2.2
theorem Vw.LR.nil:V.LR [] []:=⟨rfl,λ_ h=>nomatch h⟩
theorem Vw.VR.lr{k l:Int}(h:V.VR k l):V.LR [k] [l]:=⟨by simp[h.2],by simp[h.1]⟩
theorem Vw.LR.app{a b c d:aM}(h:V.LR a b)(e:V.LR c d):V.LR (a++c) (b++d):=⟨by rw[h.1,e.1,List.map_append],λk U=>by
 rcases List.mem_append.1 U with U|U;exact h.2 k U;exact e.2 k U⟩
theorem Vw.LR.len{a b:aM}(h:V.LR a b):b.length=a.length:=by rw[h.1];simp
theorem Vw.LR.one{a b:aM}(h:V.LR a b)(c:a.length=1):V.VR (a.headD 0) (b.headD 0):=by
 match a,c with
 | [k],_=>rw[h.1];exact⟨h.2 k X,rfl⟩
theorem xy{tag:aj}{k a:Int}{t b:ap}(U:V.VR k a)(h:V.R t b):V.dz tag [k] t [a] b:=⟨U.lr,λ_=>rfl,.inl h⟩
theorem zv{tag:aj}{k a:aM}{t b:ap}(c:tag.Aw=false)(U:V.LR k a)(h:V.R t b):V.dz tag k t a b:=⟨U,λe=>(by rw[c]at e;cases e),.inl h⟩
theorem SR.one{m d:j (aM)}{tag:aj}(h:SR m d s s' (V.dz tag))(e:tag.Aw=true){Q:Int->ap->Int->ap->Prop}(k:∀k t c b,V.VR k c->(V.R t b\/(tag.yW=true/\V.o_ t b))->Q k t c b):SR (one m) (one d) s s' Q:=by
 exact SR.bind (h.mono λa t f b hp=>SR.ret (k _ _ _ _ (hp.1.one (hp.2.1 e)) hp.2.2))
theorem Vw.fL.one(o:V.fL f)(m:f<=g){tag b:aj}(n:V.GR tag b)(h:V.R s s'){Q:Int->ap->Int->ap->Prop}(k:∀k t i d,V.VR k i->V.R t d->Q k t i d)(gm:V.a=true->tag.ex=true:=by intro _;rfl)(hp:V.pre s tag:=by trivial)(j:tag.Aw=true:=by rfl)(l:tag.yW=false:=by rfl):SR (Go.Proofs.YthhiffpfleacaaaGreatDoor.one (V.PA f tag)) (Go.Proofs.YthhiffpfleacaaaGreatDoor.one (V.PB g b)) s s' Q:=
 SR.one (o tag b s s' g m n gm hp h) j λa t p d U c=>by
  rcases c with c| ⟨e,_⟩;exact k _ _ _ _ U c;rw[l]at e;cases e
theorem Vw.fL.BY(m:V.fL f)(i:f<=g){tag b:aj}(l:V.GR tag b)(h:V.R s s'){Q:Int->ap->Int->ap->Prop}(k:∀k t d c,V.VR k d->(V.R t c\/V.o_ t c)->Q k t d c)(gm:V.a=true->tag.ex=true:=by intro _;rfl)(hp:V.pre s tag:=by trivial)(e:tag.Aw=true:=by rfl):SR (Go.Proofs.YthhiffpfleacaaaGreatDoor.one (V.PA f tag)) (Go.Proofs.YthhiffpfleacaaaGreatDoor.one (V.PB g b)) s s' Q:=
 SR.one (m tag b s s' g i l gm hp h) e λa t n c U j=>k _ _ _ _ U (j.imp id (·.2))
theorem Vw.fL.run(n:V.fL f)(j:f<=g){tag b:aj}(m:V.GR tag b)(h:V.R s s'){Q:aM->ap->aM->ap->Prop}(k:∀k t d c,V.LR k d->(tag.Aw=true->k.length=1)->V.R t c->Q k t d c)(gm:V.a=true->tag.ex=true:=by intro _;rfl)(hp:V.pre s tag:=by trivial)(i:tag.yW=false:=by rfl):SR (V.PA f tag) (V.PB g b) s s' Q:=
 (n tag b s s' g j m gm hp h).mono λa t o c hp=>by
  rcases hp.2.2 with l| ⟨e,_⟩;exact k _ _ _ _ hp.1 hp.2.1 l;rw[i]at e;cases e
theorem Vw.fL.dI(l:V.fL f)(j:f<=g){tag b:aj}(c:aj)(k:V.GR tag b)(h:V.R s s')(gm:V.a=true->tag.ex=true:=by intro _;rfl)(hp:V.pre s tag:=by trivial)(d:tag.Aw=c.Aw:=by rfl)(i:tag.yW=true->c.yW=true:=by intro e;first|exact e|rfl|cases e):SR (V.PA f tag) (V.PB g b) s s' (V.dz c):=
 (l tag b s s' g j k gm hp h).mono λa t m n hp=>⟨hp.1,λe=>hp.2.1 (d.trans e),hp.2.2.imp id λx=>⟨i x.1,x.2⟩⟩
theorem SR.ga(h:V.R s s'){x y:aR}(b:V.XR x y){tag:aj}:SR (cj x) (cj y) s s' (V.dz tag):=by
 exact SR.bind (SR.node h b λk t c d U a=>SR.ret (xy U a))
theorem pi(h:V.R s s'){kd b:Int}{op d:ah}{aT a:Nat}{ks c:aM}{p e:Int}(U:V.LR ks c)(hp:V.rq p e){tag:aj}(f:b=kd:=by rfl)(g:d=op:=by first|rfl|assumption)(i:a=aT:=by first|rfl|assumption):SR (cj ⟨kd,op,aT,ks,p⟩) (cj ⟨b,d,a,c,e⟩) s s' (V.dz tag):=SR.ga h (show V.XR ⟨kd,op,aT,ks,p⟩ ⟨b,d,a,c,e⟩from⟨f,g,i,U.1,hp⟩)
theorem yI(h:V.R s s'){kd b:Int}{op d:ah}{aT a:Nat}{ks c:aM}{p e:Int}(U:V.LR ks c)(hp:V.rq p e){Q:Int->ap->Int->ap->Prop}(k:∀k t f g,V.VR k f->V.R t g->Q k t f g)(i:b=kd:=by rfl)(j:d=op:=by first|rfl|assumption)(l:a=aT:=by first|rfl|assumption):SR (dX ⟨kd,op,aT,ks,p⟩) (dX ⟨b,d,a,c,e⟩) s s' Q:=SR.node h (show V.XR ⟨kd,op,aT,ks,p⟩ ⟨b,d,a,c,e⟩from⟨i,j,l,U.1,hp⟩) k
theorem adz(h:V.R s s'\/V.o_ s s'){x y:aR}(b:V.XR x y){tag:aj}(c:tag.yW=true):SR (cj x) (cj y) s s' (V.dz tag):=by
 rcases h with h|h;exact SR.ga h b;intro a t e;cases e;exact⟨_,_,rfl,h.toNR.vr.lr,λ_=>rfl,.inr ⟨c,h.push b⟩⟩
theorem LC(n:Nat):cI ((pB[n]?).getD []) rp=false/\cI ((pB[n]?).getD []) dt=false:=by
 match n with
 |0=>exact Y
 |1=>exact Y
 |2=>exact Y
 |3=>exact Y
 |4=>exact Y
 |5=>exact Y
 |6=>exact Y
 |7=>exact Y
 |8=>exact Y
 |9=>exact Y
 |n+10=>exact Y
theorem adI(b:V.Ok)(i:V.fL f)(d:f<=g)(j:V.R s s'):SR (V.PA (f+1) .bf) (V.PB (g+1) .bf) s s' (V.dz .bf):=by
 unfold Vw.PA Vw.PB;refine SR.bind (i.one d .cond j λk t w z U h=>SR.bind (SR.cE (SR.bif (h.ask b (λkd c _=>kd !=5|| !cI qQ c) (λ_ _=>Y)) (λ_ _=>SR.ret (xy U h)) (λm _=>?_))));have a:=h.Sr b (λkd c _=>kd !=5|| !cI qQ c) false rfl (λ_=>rfl) m;have l:=h.pz b a;have q:=l.2.1;exact SR.bind (SR.oS h.toNR U (SR.bind (SR.step h a λu A o=>SR.bind (i.one d .bf o λr v y B n e=>SR.bind (SR.fz e.toNR U λp x hp=>pi e (U.lr.app n.lr) hp)))))
theorem adH(i:V.Ok)(d:V.fL f)(c:f<=g)(l:V.R s s'):SR (V.PA (f+1) .cond) (V.PB (g+1) .cond) s s' (V.dz .cond):=by
 unfold Vw.PA Vw.PB;exact SR.bind (d.one c (.level 0) l λk t A C U h=>SR.bind (SR.cK i h rfl (λu D o _=>SR.bif rfl (λe _=>nomatch e) (λ_ _=>SR.bind (d.one c .bf o λa v y E m q=>SR.bind (SR.cC i q rfl λw F r=>SR.bind (d.one c .bf r λb x z G n j=>SR.bind (SR.fz j.toNR U λp B hp=>pi j (U.lr.app (m.lr.app n.lr)) hp)))))) (λ_=>SR.bif rfl (λ_ _=>SR.ret (xy U h)) (λe _=>nomatch e))))
theorem adL(b:V.fL f)(a:f<=g)(n:Nat)(c:V.R s s'):SR (V.PA (f+1) (.level n)) (V.PB (g+1) (.level n)) s s' (V.dz (.level n)):=by
 unfold Vw.PA Vw.PB;exact SR.bif rfl (λ_ _=>b.dI a _ .unary c) (λ_ _=>SR.bind (b.one a (.level (n+1)) c λk t d e U h=>b.dI a _ (.ig n U) h))
theorem adM(c:V.Ok)(j:V.fL f)(h:f<=g)(n:Nat){k l:Int}(U:V.VR k l)(a:V.R s s'):SR (V.PA (f+1) (.ig n k)) (V.PB (g+1) (.ig n l)) s s' (V.dz (.ig n k)):=by
 unfold Vw.PA Vw.PB;refine SR.bind (SR.cE (SR.bif (a.ask c (λkd d _=>(kd !=5&&kd !=2)|| !cI ((pB[n]?).getD []) d) (λ_ _=>?_)) (λ_ _=>SR.ret (xy U a)) (λo _=>?_)));rw[(LC n).1,(LC n).2];simp[*];have b:=a.Sr c (λkd d _=>(kd !=5&&kd !=2)|| !cI ((pB[n]?).getD []) d) false rfl (λ_=>by rw[(LC n).1];rfl) o;have e:=a.pz c b;have A:=e.2.1;have z:=e.2.2.1;exact SR.bind (SR.step a b λu E x=>SR.bind (j.one h (.level (n+1)) x λr v D F t i=>SR.bind (SR.fz i.toNR U λp C hp=>SR.bind (yI i (U.lr.app t.lr) hp λm w B G q y=>j.dI h _ (.ig n q) y))))
theorem adY(j:V.Ok)(e:V.fL f)(d:f<=g)(c:V.R s s'):SR (V.PA (f+1) .unary) (V.PB (g+1) .unary) s s' (V.dz .unary):=by
 rcases c.KQ j with l|b;exact SR.no (SA _ _ rfl l);have a:=c.pz j b;have p:=a.2.1;unfold Vw.PA Vw.PB;rw[P,P];refine SR.bind (SR.cE (SR.bif (by rw[a.1]) (λ_ _=>e.dI d _ .eo c) (λ_ _=>SR.bif (by rw[a.2.1]) (λ_ _=>?_) (λ_ _=>SR.bif (by rw[a.2.1]) (λ_ _=>?_) (λ_ _=>e.dI d _ .eo c)))));exact SR.bind (SR.step c b λu o i=>SR.bind (e.one d .unary i λk t m n U h=>SR.bind (SR.bif (by rw[a.2.1]) (λ_ _=>SR.oS h.toNR U (pi h U.lr a.au)) (λ_ _=>SR.ret (pi h U.lr a.au)))));exact SR.bind (SR.step c b λu o i=>SR.bind (e.one d .unary i λk t m n U h=>SR.bind (SR.oS h.toNR U (pi h U.lr a.au))))
theorem adB(c:V.Ok)(n:V.fL f)(m:f<=g)(e:V.R s s'):SR (V.PA (f+1) .eo) (V.PB (g+1) .eo) s s' (V.dz .eo):=by
 unfold Vw.PA Vw.PB;refine SR.bind (n.one m .suffix e λk t r w U h=>SR.bind (SR.cE (SR.bif (h.ask c (λkd b l=>kd !=5||(l||(!bx b pp&& !bx b mm))) (λ_ o=>by cases o <;> exact⟨rfl,rfl⟩)) (λ_ _=>SR.ret (xy U h)) (λj _=>?_))));have a:=h.Sr c (λkd b l=>kd !=5||(l||(!bx b pp&& !bx b mm))) false rfl (λl=>by cases l <;> rfl) j;have i:=h.pz c a;have q:=i.2.1;exact SR.bind (SR.oS h.toNR U (SR.bind (SR.step h a λu x d=>SR.bind (SR.fz d.toNR U λp v hp=>pi d U.lr hp))))
theorem adV(b:V.fL f)(a:f<=g)(c:V.R s s'):SR (V.PA (f+1) .suffix) (V.PB (g+1) .suffix) s s' (V.dz .suffix):=by
 unfold Vw.PA Vw.PB;exact SR.bind (b.one a .dL c λk t d e U h=>b.dI a _ (.eX U) h)
theorem SB(a:V.Ok)(b:V.a=true){t:ap}(h:V.dA<=t.i):K V.A t 0 lp=false:=by
 unfold K;cases c:V.A[t.i]? with
 |none=>rfl
 |some x=>exact a.akt b _ _ h c
theorem Vw.R.dA(h:V.R s s'):V.dA<=s.i:=by
 obtain⟨i,_,a,_⟩:=h.at_;omega
theorem adR(a:V.Ok)(o:V.fL f)(i:f<=g){k B:Int}(U:V.VR k B)(d:V.R s s'):SR (V.PA (f+1) (.eX k)) (V.PB (g+1) (.eX B)) s s' (V.dz (.eX k)):=by
 unfold Vw.PA Vw.PB;refine SR.bind (SR.cK a d rfl (λt E h _=>SR.bif rfl (λ_ _=>?_) (λe _=>nomatch e)) (λ_=>SR.bif rfl (λe _=>nomatch e) (λ_ _=>SR.bind (SR.cK a d rfl (λt E h _=>SR.bif rfl (λ_ _=>?_) (λe _=>nomatch e)) (λ_=>SR.bif rfl (λe _=>nomatch e) (λ_ _=>SR.bind (SR.cK a d rfl (λt E h z=>SR.bif rfl (λ_ _=>?_) (λe _=>nomatch e)) (λ_=>SR.bif rfl (λe _=>nomatch e) (λ_ _=>SR.ret (xy U d))))))))));rcases h.KQ a with q|j;refine SR.no (NO.cE (NO.bind (NO.bif (λ_=>NO.e_) (λy=>?_))));rw[q.ask (λk _=>k !=1&&k !=2) (b:=true) rfl rfl]at y;cases y;have x:=h.pz a j;have L:=x.2.1;exact SR.bind (SR.cE (SR.bind (SR.bif (by rw[x.1]) (λ_ _=>SR.no NO.e_) (λ_ _=>SR.ret (SR.bind (SR.step h j λu F c=>SR.bind (SR.fz c.toNR U λp D hp=>SR.bind (yI c U.lr hp λm w C G l n=>o.dI i _ (.eX l) n))))))));exact SR.bind (o.one i .bf h λe u K F q c=>SR.bind (SR.cC a c rfl λv N A=>SR.bind (SR.fz A.toNR U λp D hp=>SR.bind (yI A (U.lr.app q.lr) hp λm w C G l n=>o.dI i _ (.eX l) n))));have H:V.a=false:=by
  cases I:V.a with
  |false=>rfl
  |true=>rw[SB a I d.dA]at z;cases z
 exact SR.bind (o.run i (.eV U.lr) h (λM u J F r _ c=>SR.bind (SR.fz c.toNR U λp D hp=>SR.bind (yI c r hp λm w C G l n=>o.dI i _ (.eX l) n))) (gm:=λe=>by rw[H]at e;cases e))
theorem adE(c:V.Ok)(l:V.a=false)(n:V.fL f)(m:f<=g){ks a:aM}(U:V.LR ks a)(b:V.R s s'):SR (V.PA (f+1) (.eV ks)) (V.PB (g+1) (.eV a)) s s' (V.dz (.eV ks)):=by
 rcases b.pr c l with d|i;exact SR.no (rl _ _ rfl d);have o:∀{t:aj},V.a=true->t.ex=true:=λe=>by rw[l]at e;cases e
 unfold Vw.PA Vw.PB;have K:∀{t k:ap},V.R t k->SR (one (V.PA f .bf)>>=λe=>V.PA f (.eV (ks++[e]))) (one (V.PB g .bf)>>=λe=>V.PB g (.eV (a++[e]))) t k (V.dz (.eV ks)):=λh=>SR.bind (n.one m .bf h λe u q p d j=>n.dI m _ (.eV (U.app d.lr)) j o);exact SR.bind (yH c b i (λt k h _=>SR.bif rfl (λ_ _=>SR.ret (zv rfl U h)) (λe _=>nomatch e)) (λ_=>SR.bif rfl (λe _=>nomatch e) (λ_ _=>SR.bind (SR.bif (by rw[U.len]) (λ_ _=>SR.cC c b rfl λu p j=>K j) (λ_ _=>SR.ret (K b))))))
theorem adA(i:V.Ok)(l:V.fL f)(k:f<=g){ks a:aM}(U:V.LR ks a)(j:V.R s s'):SR (V.PA (f+1) (.de ks)) (V.PB (g+1) (.de a)) s s' (V.dz (.de ks)):=by
 unfold Vw.PA Vw.PB;have K:∀{e d:Int}{t c:ap},V.VR e d->V.R t c->SR (V.PA f (.de (ks++[e]))) (V.PB g (.de (a++[d]))) t c (V.dz (.de ks)):=λb h=>l.dI k _ (.de (U.app b.lr)) h;exact SR.bind (SR.cK i j rfl (λt c h _=>SR.bif rfl (λ_ _=>SR.ret (zv rfl U h)) (λe _=>nomatch e)) (λ_=>SR.bif rfl (λe _=>nomatch e) (λ_ _=>SR.bind (l.one k .bf j λe t d c b h=>SR.bind (SR.is i h rfl (SR.bind (SR.bif rfl (λ_ _=>SR.cC i h rfl λu n m=>K b m) (λ_ _=>SR.ret (K b h)))))))))
theorem adO(c:V.Ok)(o:V.fL f)(n:f<=g){ks b:aM}(U:V.LR ks b)(m:V.R s s'):SR (V.PA (f+1) (.dr ks)) (V.PB (g+1) (.dr b)) s s' (V.dz (.dr ks)):=by
 unfold Vw.PA Vw.PB;have K:∀{a k e l:Int}{t j:ap},V.VR a k->V.VR e l->V.R t j->SR (V.PA f (.dr (ks++[a]++[e]))) (V.PB g (.dr (b++[k]++[l]))) t j (V.dz (.dr ks)):=λd i h=>o.dI n _ (.dr ((U.app d.lr).app i.lr)) h;exact SR.bind (SR.cK c m rfl (λt j h _=>SR.bif rfl (λ_ _=>SR.ret (zv rfl U h)) (λe _=>nomatch e)) (λ_=>SR.bif rfl (λe _=>nomatch e) (λ_ _=>SR.bind (SR.key c m λa v k y d q=>SR.bind (SR.cC c q rfl λw z r=>SR.bind (o.one n .bf r λe t l j i h=>SR.bind (SR.is c h rfl (SR.bind (SR.bif rfl (λ_ _=>SR.cC c h rfl λu x p=>K d i p) (λ_ _=>SR.ret (K d i h)))))))))))
theorem akm(c:V.Ok)(g:V.a=true)(k:Int)(h:V.dA<=s.i):∀f,NO (V.PA f (.func k)) s:=by
 intro f;cases f with
 |zero=>show NO (P V.A V.b V.aO V.wide 0 _) s;rw[P];exact NO.out
 |succ f=>
  show NO (P V.A V.b V.aO V.wide (f+1) _) s;refine NO.cE (uW λa t e=>?_);cases e;refine NO.get (uW λa t e=>?_);have d:V.dA<=t.i:=by
   revert e;cases (k==35||nameV V.A {s with i:=s.i+1} 0)with
   |true=>
    intro e;have b:iM V.A V.b {s with i:=s.i+1}= .ok a t:=e;unfold iM at b;grind
   |false=>intro e;cases e;show V.dA<=s.i+1;omega
  exact NO.bind (NO.cC (SB c g d))
theorem adS(i:V.Ok)(r:V.fL f)(o:f<=g)(d:V.R s s'):SR (V.PA (f+1) .dL) (V.PB (g+1) .dL) s s' (V.dz .dL):=by
 rcases d.KQ i with D|a;exact SR.no (SA _ _ rfl D);have c:=d.pz i a;have w:=c.2.1;have F:=c.2.2.1;have is:=λT=>d.isLt i a T;unfold Vw.PA Vw.PB;have b:∀{kd:Int}{A n:ah}{aT j:Nat}{p B:Int},V.rq p B->n=A->j=aT->SR (fh>>=λ_=>cj ⟨kd,A,aT,[],p⟩) (fh>>=λ_=>cj ⟨kd,n,j,[],B⟩) s s' (V.dz .dL):=λhp I J=>SR.bind (SR.step d a λu y m=>pi m .nil hp);refine SR.bind (SR.cE (SR.bif (by rw[c.1]) (λ_ _=>b c.au rfl F) (λ_ _=>SR.bif (by rw[c.1]) (λ_ _=>b c.au w rfl) (λ_ _=>SR.bif (by rw[c.1]) (λ_ _=>b c.au w rfl) (λ_ _=>SR.bind (SR.get (SR.bif (by simp[*]) (λ_ _=>b c.au w rfl) (λ_ _=>SR.bif (is _) (λK _=>?_) (λ_ _=>?_)))))))));cases q:V.a with
 |true=>exact SR.no (akm i q _ d.dA f)
 |false=>exact r.dI o _ (.func 7) d (λe=>by rw[q]at e;cases e) a
 refine SR.bind (yH i d a (λt C h z=>SR.bif rfl (λ_ _=>?_) (λe _=>nomatch e)) (λ_=>SR.bif rfl (λe _=>nomatch e) (λ_ _=>SR.bind (yH i d a (λt C h _=>SR.bif rfl (λ_ _=>?_) (λe _=>nomatch e)) (λ_=>SR.bif rfl (λe _=>nomatch e) (λ_ _=>SR.bind (yH i d a (λt C h _=>SR.bif rfl (λ_ _=>?_) (λe _=>nomatch e)) (λ_=>SR.bif rfl (λe _=>nomatch e) (λ_ _=>SR.no NO.e_)))))))));have E:V.a=false:=by
  cases q:V.a with
  |false=>rfl
  |true=>rw[SB i q d.dA]at z;cases z
 exact SR.bind (r.one o .bf h λk u L y U m=>SR.bind (A5 i E m λv M G=>SR.ret (xy U G)));exact SR.bind (r.run o (.de .nil) h λH u x y l _ m=>pi m l c.au);exact SR.bind (r.run o (.dr .nil) h λH u x y l _ m=>pi m l c.au)
end
end
section
section
variable{V:Vw}{s s':ap}{f g:Nat}
theorem Vw.R.nameV(a:V.Ok)(c:V.a=false)(h:V.R s s'):Go.Proofs.YthhiffpfleacaaaGreatDoor.nameV V.A s 0=Go.Proofs.YthhiffpfleacaaaGreatDoor.nameV V.B s' 0:=by
 unfold Go.Proofs.YthhiffpfleacaaaGreatDoor.nameV;simp only[Nat.add_zero];rcases h.tok a with⟨d,x,y,f,b,e⟩| ⟨e1,g⟩;simp only[f,b,e.1]
 ·
  have:V.A[s.i]?=none:=by rw[e1];exact a.qZ c
  rcases a.Bz with h| ⟨y,b,U,_⟩
  all_goals grind
variable{p p':Int}{ks nT:aM}{L:List a8}{t t':ap}
theorem Vw.R.set(h:V.R s s')(d:t'.h=t.h)(e:t'.loops=t.loops)(f:t'.d=t.d)(e1:t.i=s.i:=by rfl)(b:t'.i=s'.i:=by rfl)(c:t.a=s.a:=by rfl)(a:t'.a=s'.a:=by rfl):V.R t t':=by
 obtain⟨i,g,j,k⟩:=h.at_;exact⟨h.toNR.same c a d e f,i,g,O,O⟩
theorem Vw.o_.set(h:V.o_ s s')(d:t'.h=t.h)(e:t'.loops=t.loops)(f:t'.d=t.d)(e1:t.i=s.i:=by rfl)(a:t'.i=s'.i:=by rfl)(c:t.a=s.a:=by rfl)(b:t'.a=s'.a:=by rfl):V.o_ t t':=
 ⟨h.toNR.same c b d e f,by rw[e1];exact h.sA,by rw[a];exact h.tB,h.Hh⟩
theorem Vw.o_.pr(a:V.Ok)(h:V.o_ s s'):V.A[s.i]?=none:=by rw[h.sA];exact a.qZ h.Hh
theorem YI(h:L[s.i]?=none):decide (s.i>=L.length)=true:=bp (by rw[List.getElem?_eq_none_iff]at h;exact h)
theorem O1{x:a8}(h:L[s.i]?=some x):s.i<L.length:=by
 grind
theorem SR.Av(f:V.Ok)(j:V.a=false)(h:V.R s s'){Q:ax->ap->ax->ap->Prop}(k:∀t t',(V.R t t'\/V.o_ t t')->Q () t () t'):SR (eh V.A V.b) (eh V.B V.d) s s' Q:=by
 intro a t e;unfold eh at*;rcases h.tok f with⟨c,x,y,l,m,q⟩| ⟨e1,i⟩;rw[<-h.isLt f c,<-h.isLt f c];have g:=O1 l;have b:=O1 m;rw[ll m,q.2.2.2.1];rw[ll l]at e;have r:decide (s.i>=V.A.length)=false:=bF O;have n:decide (s'.i>=V.B.length)=false:=bF O;rw[n];cases o:K V.A s 0 dt with
 |true=>rw[o]at e;cases e;exact⟨(),_,rfl,k _ _ (.inl (h.step c))⟩
 |false=>
  grind
 have g:V.A[s.i]?=none:=by rw[e1];exact f.qZ j
 rw[q_ g,q_ g,YI g]at e;cases e;rcases f.Bz with b| ⟨y,b,U,p,d⟩;rw[<-i]at b;rw[q_ b,q_ b,YI b];simp[*];rw[<-i]at b;rcases d with d|d;rw[OP b d rfl,OP b d rfl,ll b,p];simp[*];have:K V.B s' 0 dt=true:=by{unfold K;rw[Nat.add_zero,b];simp only[U,d];rfl};rw[this];exact⟨(),_,rfl,k _ _ (.inr ⟨h.toNR.same,e1,by simp[*],j⟩)⟩
theorem PK(d:V.Ok)(h:V.R s s')(b:s.i<V.n+V.dA){Q:Int->ap->Int->ap->Prop}(k:∀k t c t',V.VR k c->V.R t t'->t.i=s.i->Q k t c t'):SR (kF V.A V.b) (kF V.B V.d) s s' Q:=by
 intro a t e;cases e;exact⟨_,_,rfl,k _ _ _ _ h.vr (h.push ⟨rfl,rfl,rfl,rfl,(h.pz d b).au⟩) rfl⟩
theorem adK(j:V.Ok)(r:V.a=false)(A:V.fL f)(y:f<=g)(kd:Int)(d:s.i<V.n+V.dA)(q:V.R s s'):SR (V.PA (f+1) (.func kd)) (V.PB (g+1) (.func kd)) s s' (V.dz (.func kd)):=by
 have E:=q.pz j d;have z:∀{t:aj},V.a=true->t.ex=true:=λe=>by rw[r]at e;cases e
 unfold Vw.PA Vw.PB;refine SR.bind (SR.cE (SR.bind (SR.step q d λu M o=>SR.bind (SR.get (SR.bind ?_)))));have K:∀{p c:ah}{t t':ap},V.R t t'->c=p->SR (cu V.A V.b lp>>=λ_=>V.PA f (.ed [])>>=λl=>fd>>=λa=>jU {a with h:=a.h+1,loops:=0,d:=0}>>=λ_=>one (V.PA f (.block true))>>=λb=>fd>>=λt=>jU {t with h:=t.h-1,loops:=a.loops,d:=a.d}>>=λ_=>cj ⟨kd,p,0,l++[b],(I V.A V.b s).au⟩) (cu V.B V.d lp>>=λ_=>V.PB g (.ed [])>>=λl=>fd>>=λa=>jU {a with h:=a.h+1,loops:=0,d:=0}>>=λ_=>one (V.PB g (.block true))>>=λb=>fd>>=λt=>jU {t with h:=t.h-1,loops:=a.loops,d:=a.d}>>=λ_=>cj ⟨kd,c,0,l++[b],(I V.B V.d s').au⟩) t t' (V.dz (.func kd)):=λ{p c t t'}h e=>by{refine SR.bind (SR.cC j h rfl λv N H=>SR.bind (A.run y (.ed .nil) H (λl w J m n _ k=>SR.bind (SR.get (SR.bind (SR.set (SR.bind ?_))))) z));have C:V.R {w with h:=w.h+1,loops:=0,d:=0} {m with h:=m.h+1,loops:=0,d:=0}:=k.set (by rw[k.h]) rfl rfl;refine A.one y (.block true) C (λb x L B F i=>SR.bind (SR.get (SR.bind (SR.set ?_)))) z;have D:V.R {x with h:=x.h-1,loops:=w.loops,d:=w.d} {B with h:=B.h-1,loops:=m.loops,d:=m.d}:=i.set (by rw[i.h]) k.loops k.d;exact pi D (n.app F.lr) E.au};exact SR.bif (by rw[o.nameV j r]) (λ_ _=>SR.word j o λw t t' G=>K G rfl) (λ_ _=>SR.ret (K o rfl))
theorem adP(b:V.Ok)(i:V.a=false)(r:V.fL f)(n:f<=g)(U:V.LR ks nT)(c:V.R s s'):SR (V.PA (f+1) (.ed ks)) (V.PB (g+1) (.ed nT)) s s' (V.dz (.ed ks)):=by
 rcases c.pr b i with d|a;exact SR.no (rl _ _ rfl d);have q:∀{t:aj},V.a=true->t.ex=true:=λe=>by rw[i]at e;cases e
 unfold Vw.PA Vw.PB;have K:∀{t t':ap},V.R t t'->SR (gk V.A V.b>>=λx=>iM V.A V.b>>=λw=>dX ⟨3,w,0,[],x.au⟩>>=λk=>V.PA f (.ed (ks++[k]))) (gk V.B V.d>>=λx=>iM V.B V.d>>=λw=>dX ⟨3,w,0,[],x.au⟩>>=λk=>V.PB g (.ed (nT++[k]))) t t' (V.dz (.ed ks)):=λ{t t'}h=>by{rcases h.pr b i with d|a;exact SR.no (NO.cE (NO.bind (nA.word (.inl d))));have l:=h.pz b a;exact SR.bind (SR.cE (SR.bind (SR.word b h λw u y j=>SR.bind (yI j .nil l.au λm v z A o p=>r.dI n _ (.ed (U.app o.lr)) p q))))};exact SR.bind (yH b c a (λt t' h _=>SR.bif rfl (λ_ _=>SR.ret (zv rfl U h)) (λe _=>nomatch e)) (λ_=>SR.bif rfl (λe _=>nomatch e) (λ_ _=>SR.bind (SR.bif (by rw[U.len]) (λ_ _=>SR.cC b c rfl λu y j=>K j) (λ_ _=>SR.ret (K c))))))
theorem adC(c:V.Ok)(h:V.a=false)(o:V.fL f)(k:f<=g)(b:Bool)(a:V.R s s'):SR (V.PA (f+1) (.block b)) (V.PB (g+1) (.block b)) s s' (V.dz (.block b)):=by
 rcases a.pr c h with j|d;exact SR.no (rl _ _ rfl j);have n:∀{t:aj},V.a=true->t.ex=true:=λe=>by rw[h]at e;cases e
 have i:=a.pz c d;unfold Vw.PA Vw.PB;exact SR.bind (SR.cE (SR.bind (SR.cC c a rfl λu p l=>SR.bind (o.run k (.gQ b .nil) l (λks v nT q U _ m=>pi m U i.au) n))))
theorem adD(c:V.Ok)(i:V.a=false)(m:V.fL f)(j:f<=g)(b:Bool)(U:V.LR ks nT)(a:V.R s s'):SR (V.PA (f+1) (.gQ ks b)) (V.PB (g+1) (.gQ nT b)) s s' (V.dz (.gQ ks b)):=by
 rcases a.pr c i with n|d;exact SR.no (rl _ _ rfl n);have l:∀{t:aj},V.a=true->t.ex=true:=λe=>by rw[i]at e;cases e
 unfold Vw.PA Vw.PB;refine SR.bind (yH c a d (λt t' h _=>SR.bif rfl (λ_ _=>SR.ret (zv rfl U h)) (λe _=>nomatch e)) (λ_=>SR.bif rfl (λe _=>nomatch e) (λ_ _=>SR.bind (m.BY j (.cw b) a (λk t p t' o h=>?_) l))));rcases h with h|h;exact m.dI j _ (.gQ b (U.app o.lr)) h l;exact SR.no (rl _ _ rfl (h.pr c))
theorem adQ(a:V.Ok)(c:V.a=false)(j:V.fL f)(d:f<=g)(b:V.R s s'):SR (V.PA (f+1) .paren) (V.PB (g+1) .paren) s s' (V.dz .paren):=by
 unfold Vw.PA Vw.PB;exact SR.bind (SR.cC a b rfl λu m e=>SR.bind (j.one d .bf e λk t l t' U h=>SR.bind (A5 a c h λv n i=>SR.ret (xy U i))))
theorem ad0(d:V.Ok)(h:V.a=false)(m:V.fL f)(i:f<=g)(a:s.i<V.n+V.dA)(b:V.R s s'):SR (V.PA (f+1) .vars) (V.PB (g+1) .vars) s s' (V.dz .vars):=by
 have l:∀{t:aj},V.a=true->t.ex=true:=λe=>by rw[h]at e;cases e
 have c:=b.pz d a;unfold Vw.PA Vw.PB;exact SR.bind (SR.cE (SR.bind (SR.step b a λu n j=>SR.bind (m.run i (.eO .nil) j (λks v nT o U _ k=>pi k U c.au) l))))
theorem adZ(b:V.Ok)(o:V.a=false)(r:V.fL f)(p:f<=g)(U:V.LR ks nT)(i:V.R s s'):SR (V.PA (f+1) (.eO ks)) (V.PB (g+1) (.eO nT)) s s' (V.dz (.eO ks)):=by
 rcases i.pr b o with z|j;exact SR.no (rl _ _ rfl z);have n:∀{t:aj},V.a=true->t.ex=true:=λe=>by rw[o]at e;cases e
 have y:=i.pz b j;unfold Vw.PA Vw.PB;have K:∀{w:ah}{d a:aM}{t t':ap},V.LR d a->V.R t t'->SR (dX ⟨22,w,0,d,(I V.A V.b s).au⟩>>=λk=>cT V.A qV>>=λh=>bif !h then ret (ks++[k]) else V.PA f (.eO (ks++[k]))) (dX ⟨22,w,0,a,(I V.B V.d s').au⟩>>=λk=>cT V.B qV>>=λh=>bif !h then ret (nT++[k]) else V.PB g (.eO (nT++[k]))) t t' (V.dz (.eO ks)):=λhas h=>SR.bind (yI h has y.au λm u C A q c=>SR.bind (SR.cK b c rfl (λv B l _=>SR.bif rfl (λe _=>nomatch e) (λ_ _=>r.dI p _ (.eO (U.app q.lr)) l n)) (λ_=>SR.bif rfl (λ_ _=>SR.ret (zv rfl (U.app q.lr) c)) (λe _=>nomatch e))));exact SR.bind (SR.cE (SR.bind (SR.word b i λw u A c=>SR.bind (SR.cK b c rfl (λv B l _=>SR.bind (SR.bif rfl (λ_ _=>r.run p .bf l λd x a D has _ n=>K has n) (λe _=>nomatch e))) (λ_=>SR.bind (SR.bif rfl (λe _=>nomatch e) (λ_ _=>SR.ret (K .nil c))))))))
theorem adN(c:V.a=false)(j:V.fL f)(d:f<=g)(a:V.R s s'):SR (V.PA (f+1) .loop) (V.PB (g+1) .loop) s s' (V.dz .loop):=by
 have i:∀{t:aj},V.a=true->t.ex=true:=λe=>by rw[c]at e;cases e
 unfold Vw.PA Vw.PB;have b:V.R {s with loops:=s.loops+1,d:=s.d+1} {s' with loops:=s'.loops+1,d:=s'.d+1}:=a.set a.h (by rw[a.loops]) (by rw[a.d]);refine SR.bind (SR.get (SR.bind (SR.set (SR.bind (j.BY d (.cw false) b (λk t l t' U h=>SR.bind (SR.get (SR.bind (SR.set (SR.ret ⟨U.lr,λ_=>rfl, ?_⟩))))) i)))));rcases h with h|h;exact .inl (h.set h.h (by rw[h.loops]) (by rw[h.d]));exact .inr ⟨rfl,h.set h.h (by rw[h.loops]) (by rw[h.d])⟩
theorem adG(q:V.Ok)(w:V.a=false)(j:V.fL f)(d:f<=g)(hp:V.rq p p')(o:V.R s s'):SR (V.PA (f+1) (.choose p)) (V.PB (g+1) (.choose p')) s s' (V.dz (.choose p)):=by
 have i:∀{t:aj},V.a=true->t.ex=true:=λe=>by rw[w]at e;cases e
 unfold Vw.PA Vw.PB;refine SR.bind (j.one d .paren o (λc t x t' r h=>SR.bind (SR.cC q h rfl λu k a=>SR.bind (SR.get (SR.bind (SR.set (SR.bind ?_)))))) i);have m:V.R {u with d:=u.d+1} {k with d:=k.d+1}:=a.set a.h a.loops (by rw[a.d]);refine j.run d (.fk false r.lr) m (λks v nT l U _ b=>SR.bind (SR.get (SR.bind (SR.set ?_)))) i;have n:V.R {v with d:=v.d-1} {l with d:=l.d-1}:=b.set b.h b.loops (by rw[b.d]);exact pi n U hp
theorem adW(j:V.Ok)(A:V.a=false)(y:V.fL f)(q:f<=g)(b:Bool)(U:V.LR ks nT)(i:V.R s s'):SR (V.PA (f+1) (.fk ks b)) (V.PB (g+1) (.fk nT b)) s s' (V.dz (.fk ks b)):=by
 rcases i.pr j A with C|a;exact SR.no (rl _ _ rfl C);have o:∀{t:aj},V.a=true->t.ex=true:=λe=>by rw[A]at e;cases e
 have B:=i.pz j a;unfold Vw.PA Vw.PB;have K:∀{n:Nat}{c:Bool}{l d:aM}{t t':ap},V.LR l d->V.R t t'->SR (cu V.A V.b colon>>=λ_=>V.PA f (.fM l)>>=λall=>dX ⟨34,.empty,n,all,(I V.A V.b s).au⟩>>=λk=>V.PA f (.fk (ks++[k]) c)) (cu V.B V.d colon>>=λ_=>V.PB g (.fM d)>>=λall=>dX ⟨34,.empty,n,all,(I V.B V.d s').au⟩>>=λk=>V.PB g (.fk (nT++[k]) c)) t t' (V.dz (.fk ks b)):=λ{n c l d t t'}has h=>SR.bind (SR.cC j h rfl λu G r=>SR.bind (y.run q (.fM has) r (λall v z J p _ E=>SR.bind (yI E p B.au λm w H L D F=>y.dI q _ (.fk c (U.app D.lr)) F o)) o));exact SR.bind (yH j i a (λt t' h _=>SR.bif rfl (λ_ _=>SR.ret (zv rfl U h)) (λe _=>nomatch e)) (λ_=>SR.bif rfl (λe _=>nomatch e) (λ_ _=>SR.bind (SR.cE (SR.bind (yH j i a (λt t' h _=>SR.bind (SR.bif rfl (λ_ _=>y.run q .bf h λl x d M has _ o=>K has o) (λe _=>nomatch e))) (λ_=>SR.bind (SR.bif rfl (λe _=>nomatch e) (λ_ _=>SR.bind (SR.isLt j i a (SR.bif rfl (λ_ _=>SR.bind (SR.step i a λu G r=>SR.ret (K .nil r))) (λ_ _=>SR.no NO.e_))))))))))))
theorem adF(b:V.Ok)(d:V.a=false)(l:V.fL f)(i:f<=g)(U:V.LR ks nT)(a:V.R s s'):SR (V.PA (f+1) (.fM ks)) (V.PB (g+1) (.fM nT)) s s' (V.dz (.fM ks)):=by
 rcases a.pr b d with m|c;exact SR.no (rl _ _ rfl m);have j:∀{t:aj},V.a=true->t.ex=true:=λe=>by rw[d]at e;cases e
 have is:=λT=>a.isLt b c T;unfold Vw.PA Vw.PB;refine SR.bind (SR.get (SR.bif (by simp[*]) (λ_ _=>SR.bind (l.BY i (.cw false) a (λk t o t' n h=>?_) j)) (λ_ _=>SR.ret (zv rfl U a))));rcases h with h|h;exact l.dI i _ (.fM (U.app n.lr)) h j;exact SR.no (rl _ _ rfl (h.pr b))
theorem adX(d:V.Ok)(B:V.a=false)(r:V.fL f)(l:f<=g)(hp:V.rq p p')(D:V.R s s'):SR (V.PA (f+1) (.d5 p)) (V.PB (g+1) (.d5 p')) s s' (V.dz (.d5 p)):=by
 have q:∀{t:aj},V.a=true->t.ex=true:=λe=>by rw[B]at e;cases e
 unfold Vw.PA Vw.PB;have K:∀{w:ah}{n:Bool->Nat}{j a:aM}{t t':ap},V.LR j a->V.R t t'->SR (cT V.A rM>>=λh=>(bif h then V.PA f (.block false) else ret [])>>=λi=>cj ⟨34-2,w,n h,j++i,p⟩) (cT V.B rM>>=λh=>(bif h then V.PB g (.block false) else ret [])>>=λi=>cj ⟨34-2,w,n h,a++i,p'⟩) t t' (V.dz (.d5 p)):=λ{w n j a t t'}has h=>SR.bind (SR.cK d h rfl (λu I m _=>SR.bind (SR.bif rfl (λ_ _=>r.run l (.block false) m (λi v C J k _ o=>pi o (has.app k) hp) q) (λe _=>nomatch e))) (λ_=>SR.bind (SR.bif rfl (λe _=>nomatch e) (λ_ _=>SR.ret (pi h (has.app .nil) hp)))));refine SR.bind (r.one l (.block false) D (λb t L t' A h=>SR.bind (SR.cK d h rfl (λu I m _=>SR.bind (SR.bif rfl (λ_ _=>?_) (λe _=>nomatch e))) (λ_=>SR.bind (SR.bif rfl (λe _=>nomatch e) (λ_ _=>SR.ret ?_))))) q);exact SR.bind (SR.cC d m rfl λv J o=>SR.bind (SR.word d o λw x N F=>SR.bind (A5 d B F λy O G=>SR.bind (r.one l (.block false) G (λc z M P E H=>SR.ret (SR.bind (SR.get (SR.bind (SR.bif (by rfl) (λ_ _=>SR.no NO.e_) (λ_ _=>SR.ret (K (n:=λh=>bif true then (bif h then wm else iI) else uL) (A.lr.app E.lr) H))))))) q))));exact SR.bind (SR.get (SR.bind (SR.bif (by rw[h.is d rfl]) (λ_ _=>SR.no NO.e_) (λ_ _=>SR.ret (K (n:=λh=>bif false then (bif h then wm else iI) else uL) (A.lr.app .nil) h)))))
end
end
section
section
variable{V:Vw}{s s':ap}{f g:Nat}
variable{p p':Int}{v:Nat}
theorem A6(h:V.R s s'\/V.o_ s s'){kd b:Int}{op d:ah}{aT a:Nat}{ks c:aM}(U:V.LR ks c)(hp:V.rq p p'){tag:aj}(i:tag.yW=true)(e:b=kd:=by rfl)(f:d=op:=by first|rfl|assumption)(g:a=aT:=by first|rfl|assumption):SR (cj ⟨kd,op,aT,ks,p⟩) (cj ⟨b,d,a,c,p'⟩) s s' (V.dz tag):=adz h (show V.XR ⟨kd,op,aT,ks,p⟩ ⟨b,d,a,c,p'⟩from⟨e,f,g,U.1,hp⟩) i
theorem adT(j:V.Ok)(B:V.a=false)(L:V.fL f)(H:f<=g){x r:a8}(c:V.TR x r)(w:s.i<V.n+V.dA)(o:V.R s s'):SR (V.PA (f+1) (.simple x)) (V.PB (g+1) (.simple r)) s s' (V.dz (.simple x)):=by
 unfold Vw.PA Vw.PB;rw[P,P];have C:∀{ak:Int}{d i:aM}{t q:ap},V.LR d i->V.R t q->SR (eh V.A V.b>>=λ_=>cj ⟨ak,.empty,0,d,x.au⟩) (eh V.B V.d>>=λ_=>cj ⟨ak,.empty,0,i,r.au⟩) t q (V.dz (.simple x)):=λU h=>SR.bind (SR.Av j B h λt q h=>A6 h U c.au rfl);have b:∀(ak:Int),SR (fh>>=λ_=>gk V.A V.b>>=λn=>fd>>=λs=>(bif ak==(31:Int)&&n.aB then ju V.A V.b else ret ())>>=λ_=>(bif ak==(31:Int)||(ak==(28:Int)&&(decide (s.i<V.A.length)&&(!n.aB&&(!K V.A s 0 dt&& !K V.A s 0 rc)))) then V.PA f .bf else ret [])>>=λd=>eh V.A V.b>>=λ_=>cj ⟨ak,.empty,0,d,x.au⟩)
   (fh>>=λ_=>gk V.B V.d>>=λn=>fd>>=λs=>(bif ak==(31:Int)&&n.aB then ju V.B V.d else ret ())>>=λ_=>(bif ak==(31:Int)||(ak==(28:Int)&&(decide (s.i<V.B.length)&&(!n.aB&&(!K V.B s 0 dt&& !K V.B s 0 rc)))) then V.PB g .bf else ret [])>>=λd=>eh V.B V.d>>=λ_=>cj ⟨ak,.empty,0,d,r.au⟩) s s' (V.dz (.simple x)):=λak=>by
  refine SR.bind (SR.step o w λu m k=>SR.bind (SR.cE (SR.bind (SR.get ?_))));rcases k.tok j with⟨p,y,z,D,E,J⟩| ⟨e1,G⟩;have v:decide (u.i<V.A.length)=true:=bp (O1 D);have F:decide (m.i<V.B.length)=true:=bp (O1 E);rw[ll D,ll E,J.2.2.2.1,v,F,<-k.isLt j p,<-k.isLt j p];exact SR.bind (SR.bif rfl (λ_ _=>SR.no NO.e_) (λ_ _=>SR.ret (SR.bind (SR.bif rfl (λ_ _=>L.run H .bf k λd t i q U _ h=>C U h) (λ_ _=>SR.ret (C .nil k))))));have A:V.A[u.i]?=none:=by rw[e1];exact j.qZ B
  rw[yY A];have v:decide (u.i<V.A.length)=false:=bF (by grind);rw[v];cases U:ak==(31:Int)with
  |true=>exact SR.no (uW λa t e=>by cases e;exact NO.bind (rl _ _ rfl A))
  |false=>
   have l:(decide (m.i<V.B.length)&&(!(I V.B V.d m).aB&&(!K V.B m 0 dt&& !K V.B m 0 rc)))=false:=by{rcases j.Bz with l| ⟨y,l,_,p,_⟩;grind;rw[<-G]at l;rw[ll l,p,Bool.not_true,lj,nO]};rw[l];simp only[lj,nO,Bool.or_false];exact SR.bind (SR.bif rfl (λe _=>nomatch e) (λ_ _=>SR.ret (SR.bind (SR.bif rfl (λe _=>nomatch e) (λ_ _=>SR.ret (C .nil k))))))
 refine SR.bind (SR.get (SR.bind (SR.bif (by rw[c.2.1,o.h]) (λ_ _=>SR.ret (b 28)) (λ_ _=>SR.bif (by rw[c.2.1,o.d]) (λ_ _=>SR.ret (b 29)) (λ_ _=>SR.bif (by rw[c.2.1,o.loops]) (λ_ _=>SR.ret (b 30)) (λ_ _=>SR.bif (by rw[c.2.1]) (λ_ _=>SR.ret (b 31)) (λ_ _=>SR.no NO.e_)))))))
theorem ady(c:V.Ok)(h:V.R s s'\/V.o_ s s'){Q:Bool->ap->Bool->ap->Prop}(f:∀t b,V.R t b->Q true t true b)(d:Q false s false s'):SR (cT V.A C4) (cT V.B C4) s s' Q:=by
 rcases h with h|h;exact SR.cK c h rfl (λt b g _=>f t b g) (λ_=>d);intro a t e;unfold cT at*;rw[q_ (h.pr c)]at e;cases e;have:K V.B s' 0 C4=false:=by
  unfold K;rw[Nat.add_zero,h.tB];cases i:V.B[V.n+V.dB+1]? with
  |none=>rfl
  |some x=>exact c.aks x i
 simp[*]
theorem adU(A:V.Ok)(E:V.a=false)(l:V.fL f)(i:f<=g)(b:Bool)(q:V.R s s'):SR (V.PA (f+1) (.cw b)) (V.PB (g+1) (.cw b)) s s' (V.dz (.cw b)):=by
 rcases q.pr A E with H|d;exact SR.no (rl _ _ rfl H);have n:∀{t:aj},V.a=true->t.ex=true:=λe=>by rw[E]at e;cases e
 have o:=q.pz A d;have is:=λT=>q.isLt A d T;unfold Vw.PA Vw.PB;have p:SR (one (P V.A V.b V.aO V.wide f .bf)>>=λe=>eh V.A V.b>>=λ_=>cj ⟨20,.empty,0,[e],(I V.A V.b s).au⟩) (one (P V.B V.d V.aO V.wide g .bf)>>=λe=>eh V.B V.d>>=λ_=>cj ⟨20,.empty,0,[e],(I V.B V.d s').au⟩) s s' (V.dz (.cw b)):=SR.bind (l.one i .bf q λe t W r H h=>SR.bind (SR.Av A E h λu G z=>A6 z H.lr o.au rfl));refine SR.bind (SR.cE (SR.bind (SR.get (SR.bif (is _) (λ_ _=>l.dI i _ (.block false) q n) (λ_ _=>SR.bif (is _) (λ_ _=>?_) (λ_ _=>?_))))));exact SR.bind (PK A q d λk t N r U h e=>SR.bind (SR.step h O λu G z=>SR.ret (xy U z)));dsimp only;have B:=λT=>(show bx (I V.A V.b s).aJ T=bx (I V.B V.d s').aJ T by rw[o.2.1]);have step:∀{α:Type}{m J:j α}{Q:α->ap->α->ap->Prop},(∀t r,V.R t r->SR m J t r Q)->SR (fh>>=λ_=>m) (fh>>=λ_=>J) s s' Q:=λk=>SR.bind (SR.step q d k);refine SR.bif (by rw[o.1]) (λ_ _=>?_) (λ_ _=>p);refine SR.bif (B _) (λ_ _=>?_) (λ_ _=>SR.bif (by rw[o.2.1]) (λ_ _=>?_) (λ_ _=>SR.bif (B _) (λ_ _=>?_) (λ_ _=>SR.bif (B _) (λ_ _=>?_) (λ_ _=>SR.bif (B _) (λ_ _=>?_) (λ_ _=>SR.bif (B _) (λ_ _=>?_) (λ_ _=>SR.bif (B _) (λ_ _=>?_) (λ_ _=>SR.bif (B _) (λ_ _=>?_) (λ_ _=>p))))))));exact SR.bind (l.one i .vars q (λk t N r U h=>SR.bind (SR.Av A E h λu G z=>SR.ret ⟨U.lr,λ_=>rfl,z.imp id λx=>⟨rfl,x⟩⟩)) n d);exact l.dI i _ (.simple o) q n d;exact SR.bif rfl (λ_ _=>SR.no NO.e_) (λ_ _=>l.dI i _ (.func 35) q n d);exact step λt r h=>SR.bind (l.one i .paren h (λc u L G D z=>SR.bind (l.BY i (.cw false) z (λa v K S C F=>SR.bind (ady A F (λw Y M=>SR.bind (SR.bif rfl (λ_ _=>(l _ _ _ _ g i (.cw false) n trivial M).mono λX y R Z hp=>A6 (hp.2.2.imp id (·.2)) ((D.lr.app C.lr).app hp.1) o.au rfl) (λe _=>nomatch e))) (SR.bind (SR.bif rfl (λe _=>nomatch e) (λ_ _=>SR.ret (A6 F ((D.lr.app C.lr).app .nil) o.au rfl)))))) n)) n);exact step λt r h=>SR.bind (l.one i .paren h (λc u L G D z=>SR.bind (l.BY i .loop z (λa v K S C F=>A6 F (D.lr.app C.lr) o.au rfl) n)) n);exact step λt r h=>l.dI i _ (.dv o.au) h n;exact step λt r h=>l.dI i _ (.d5 o.au) h n;exact step λt r h=>l.dI i _ (.choose o.au) h n
theorem Vw.R.ajZ(a:V.Ok)(c:V.a=false)(h:V.R s s')(m:s.i+v<=V.n+V.dA):Go.Proofs.YthhiffpfleacaaaGreatDoor.nameV V.A s v=Go.Proofs.YthhiffpfleacaaaGreatDoor.nameV V.B s' v/\(Go.Proofs.YthhiffpfleacaaaGreatDoor.nameV V.A s v=true->s.i+v<V.n+V.dA):=by
 obtain⟨i,j,k,l⟩:=h.at_;unfold Go.Proofs.YthhiffpfleacaaaGreatDoor.nameV;by_cases d:i+v<V.n;obtain⟨x,y,g,b,f⟩:=a.toks (i+v) d;rw[show s.i+v=i+v+V.dA by omega,show s'.i+v=i+v+V.dB by omega,g,b];simp only[f.1];simp[*]
 ·
  rw[show s.i+v=V.n+V.dA by omega,show s'.i+v=V.n+V.dB by omega,a.qZ c];refine⟨?_,λe=>by cases e⟩;rcases a.Bz with h| ⟨y,b,U,_⟩
  all_goals grind
theorem Vw.R.Zk(a:V.Ok)(g:V.a=false)(h:V.R s s')(p:s.i+v<=V.n+V.dA){T:ah}(d:ug T=true):K V.A s v T=K V.B s' v T/\(K V.A s v T=true->s.i+v<V.n+V.dA):=by
 obtain⟨i,l,m,n⟩:=h.at_;have f:bx rp T=false/\bx dt T=false:=by unfold ug at d;grind
 unfold K;by_cases j:i+v<V.n;obtain⟨x,y,k,c,b⟩:=a.toks (i+v) j;rw[show s.i+v=i+v+V.dA by omega,show s'.i+v=i+v+V.dB by omega,k,c];simp only[b.1,b.2.1];simp[*]
 ·rw[show s.i+v=V.n+V.dA by omega,show s'.i+v=V.n+V.dB by omega,a.qZ g];refine⟨?_,λe=>by cases e⟩;rcases a.Bz with h| ⟨y,c,U,_,o⟩
  all_goals grind
theorem adJ(n:V.Ok)(B:V.a=false)(J:V.fL f)(G:f<=g)(hp:V.rq p p')(hR:V.R s s'):SR (V.PA (f+1) (.dv p)) (V.PB (g+1) (.dv p')) s s' (V.dz (.dv p)):=by
 have I:∀{t:aj},V.a=true->t.ex=true:=λe=>by rw[B]at e;cases e
 unfold Vw.PA Vw.PB;have a:∀{k L:Int}{t C:ap},V.VR k L->V.R t C->SR (cu V.A V.b dt>>=λ_=>jM V.A 0 dt>>=λh=>(bif h then kF V.A V.b else one (V.PA f .bf))>>=λc=>cu V.A V.b dt>>=λ_=>jM V.A 0 rp>>=λh=>(bif h then kF V.A V.b else one (V.PA f .bf))>>=λd=>cu V.A V.b rp>>=λ_=>one (V.PA f .loop)>>=λb=>cj ⟨26,.empty,0,[k,c,d,b],p⟩)
   (cu V.B V.d dt>>=λ_=>jM V.B 0 dt>>=λh=>(bif h then kF V.B V.d else one (V.PB g .bf))>>=λc=>cu V.B V.d dt>>=λ_=>jM V.B 0 rp>>=λh=>(bif h then kF V.B V.d else one (V.PB g .bf))>>=λd=>cu V.B V.d rp>>=λ_=>one (V.PB g .loop)>>=λb=>cj ⟨26,.empty,0,[L,c,d,b],p'⟩) t C (V.dz (.dv p)):=λ{k L t C}U h=>by
  have P:∀{T:ah}{t C:ap}{m m':Int->j (aM)}{Q:aM->ap->aM->ap->Prop},V.R t C->(∀c v M R,V.VR c M->V.R v R->SR (m c) (m' M) v R Q)->SR (jM V.A 0 T>>=λh=>(bif h then kF V.A V.b else one (V.PA f .bf))>>=m) (jM V.B 0 T>>=λh=>(bif h then kF V.B V.d else one (V.PB g .bf))>>=m') t C Q:=λ{T t C m m' Q}h k=>by{rcases h.pr n B with A|o;refine SR.no (Xh ?_);rw[q_ A];exact NO.bind (NO.bif (λe=>nomatch e) (λ_=>NO.one (rl _ _ rfl A)));exact SR.bind (SR.isLt n h o (SR.bind (SR.bif rfl (λ_ _=>PK n h o λc v M R E H _=>k _ _ _ _ E H) (λ_ _=>J.one G .bf h (λc v M R E H=>k _ _ _ _ E H) I))))};exact SR.bind (A5 n B h λu F r=>P r λc v M R E H=>SR.bind (A5 n B H λw w' N=>P N λd l d' y' hd hy=>SR.bind (A5 n B hy λz z' hz=>SR.bind (J.BY G .loop hz (λb q b' q' D Y=>A6 Y (U.lr.app (E.lr.app (hd.lr.app D.lr))) hp rfl) I))))
 refine SR.bind (SR.cC n hR rfl λu F r=>SR.bind (SR.get ?_));rcases r.pr n B with A|o;refine SR.no ?_;dsimp only;rw[q_ A,q_ A];have X:Go.Proofs.YthhiffpfleacaaaGreatDoor.nameV V.A u 0=false:=by unfold Go.Proofs.YthhiffpfleacaaaGreatDoor.nameV;simp[*]
 simp only[y,X,lj];exact NO.bind (NO.bif (λe=>nomatch e) (λ_=>NO.cE (NO.bind (NO.one (rl _ _ rfl A)))));dsimp only;rw[<-r.isLt n o,<-r.isLt n o];have hT:=r.pz n o;generalize H:(bif K V.A u 0 oi then 1 else 0:Nat)=v;have Z:u.i+v<=V.n+V.dA:=by{grind};have S:=r.ajZ n B Z;have E:(Go.Proofs.YthhiffpfleacaaaGreatDoor.nameV V.A u v&&K V.A u (v+1) wi)=(Go.Proofs.YthhiffpfleacaaaGreatDoor.nameV V.B F v&&K V.B F (v+1) wi):=by
  rw[<-S.1];cases X:Go.Proofs.YthhiffpfleacaaaGreatDoor.nameV V.A u v with
  |false=>rfl
  |true=>
   have hl:=S.2 X;rw[(r.Zk n B (v:=v+1) O rfl).1]
 refine SR.bif E (λD _=>?_) (λ_ _=>?_);rw[iP]at D;have hl:=S.2 D.1;have x2:=(r.Zk n B (v:=v+1) O (T:=wi) rfl).2 D.2;obtain⟨i,i1,i2,i3⟩:=r.at_;obtain⟨x,l,x0,x1,hr⟩:=n.toks (i+v) O;have W:V.R {u with i:=u.i+v+2} {F with i:=F.i+v+2}:=⟨r.toNR.same rfl rfl r.h r.loops r.d,i+v+2,O,by grind,by grind⟩;have x3:((V.B[F.i+v]?).map (·.aJ)).getD .empty=((V.A[u.i+v]?).map (·.aJ)).getD .empty:=by{rw[show u.i+v=i+v+V.dA by omega,show F.i+v=i+v+V.dB by omega,x0,x1];exact hr.2.1};exact SR.bind (SR.set (SR.bind (J.one G .bf W (λe w e' w' A N=>SR.bind (A5 n B N λl y' hy=>SR.bind (J.BY G .loop hy (λb q b' q' D Y=>A6 Y (A.lr.app D.lr) hp rfl) I))) I)));exact SR.bind (SR.bif rfl (λ_ _=>J.one G .vars r (λk t L C U h=>a U h) I o) (λ_ _=>SR.bif rfl (λ_ _=>PK n r o λk t L C U h _=>a U h) (λ_ _=>SR.bind (SR.cE (SR.bind (J.one G .bf r (λe w e' w' A N=>yI N A.lr hT.au λk t L C U h=>a U h) I))))))
theorem Xn(i:V.Ok):∀f,V.fL f
 |0=>λm o s s' g _ _ _ _ _=>SR.no (by show NO (P V.A V.b V.aO V.wide 0 m) s;rw[P];exact NO.out)
 |f+1=>λm o s s' g a p gm l c=>by
  have d:=Xn i f
  match g,a with
  |g+1,a=>
   have a:f<=g:=O;have j:m.ex=false->V.a=false:=λe=>by
    cases q:V.a with
    |false=>rfl
    |true=>rw[gm q]at e;cases e
   cases p with
   |bf=>exact adI i d a c
   |cond=>exact adH i d a c
   |level n=>exact adL d a n c
   |ig n h=>exact adM i d a n h c
   |unary=>exact adY i d a c
   |eo=>exact adB i d a c
   |suffix=>exact adV d a c
   |eX h=>exact adR i d a h c
   |eV h=>exact adE i (j rfl) d a h c
   |de h=>exact adA i d a h c
   |dr h=>exact adO i d a h c
   |dL=>exact adS i d a c
   |func k=>exact adK i (j rfl) d a k l c
   |ed h=>exact adP i (j rfl) d a h c
   |block b=>exact adC i (j rfl) d a b c
   |gQ b h=>exact adD i (j rfl) d a b h c
   |paren=>exact adQ i (j rfl) d a c
   |vars=>exact ad0 i (j rfl) d a l c
   |eO h=>exact adZ i (j rfl) d a h c
   |loop=>exact adN (j rfl) d a c
   |dv h=>exact adJ i (j rfl) d a h c
   |d5 h=>exact adX i (j rfl) d a h c
   |choose h=>exact adG i (j rfl) d a h c
   |fk b h=>exact adW i (j rfl) d a b h c
   |fM h=>exact adF i (j rfl) d a h c
   |simple h=>exact adT i (j rfl) d a h l c
   |cw b=>exact adU i (j rfl) d a b c
end
end
section
def m8:ap:=⟨0,[],0,0,0⟩
section
variable{T:List a8}{ae:Int}{aO:Nat->ah}{wide:ah->ah}{s t:ap}{α β:Type}
variable{r:aM}{u:ap}
theorem Ru{m:j α}{k:α->j β}{b:β}(h:(m>>=k) s= .ok b u):∃a t,m s= .ok a t/\k a t= .ok b u:=by
 have c:bP m k s= .ok b u:=h;unfold bP at c;grind
theorem qT{m:j α}{k:α->j β}{a:α}(h:m s= .ok a t):(m>>=k) s=k a t:=by
 show bP m k s=_;unfold bP;rw[h]
theorem BZ{m:j (aM)}(h:m s= .ok r t):one m s= .ok (r.headD 0) t:=by
 show bP m (λl=>ret (l.headD 0)) s=_;unfold bP;rw[h];rfl
theorem Hi{k:a8->j β}:(gk T ae>>=k) s=k (I T ae s) s:=rfl
theorem Za{k:ap->j β}:(fd>>=k) s=k s s:=rfl
theorem aja(a:nA T s)(n:Nat)(k:Int)(f:Nat):P T ae aO wide (f+1) (.ig n k) s= .ok [k] s:=by
 rw[P];rw[Hi];have:((I T ae s).ak !=5&&(I T ae s).ak !=2|| !cI ((pB[n]?).getD []) (I T ae s).aJ)=true:=a.ask (λkd b=>(kd !=5&&kd !=2)|| !cI ((pB[n]?).getD []) b) rfl (by rw[(LC n).1];rfl);rw[this];rfl
theorem Lk(a:nA T s){w:ah}(b:bx rp w=false):cT T w s= .ok false s:=by
 unfold cT;rw[a.is b];rfl
theorem alT(a:nA T s)(k:Int)(f:Nat):P T ae aO wide (f+1) (.eX k) s= .ok [k] s:=by
 rw[P];rw[qT (Lk a rfl)];show(cT T lb>>=_) s=_;rw[qT (Lk a rfl)];show(cT T lp>>=_) s=_;rw[qT (Lk a rfl)];rfl
structure AZ(T:List a8)(s:ap):Prop where
 h:∃x,T[s.i]?=some x/\x.ak=5/\x.aJ=lp
theorem AZ.ask(h:AZ T s)(g:Int->ah->Bool){b:Bool}(e:g 5 lp=b):g (I T ae s).ak (I T ae s).aJ=b:=by
 obtain⟨x,a,c,d⟩:=h.h;rw[ll a,c,d];exact e
theorem AZ.is(h:AZ T s)(w:ah):K T s 0 w=bx lp w:=by
 obtain⟨x,a,b,c⟩:=h.h;unfold K;simp[*]
theorem amj(h:AZ T s)(f:Nat):P T ae aO wide (f+1) .dL s=(one (P T ae aO wide f .bf)>>=λk=>cu T ae rp>>=λ_=>ret [k]) {s with i:=s.i+1}:=by
 rw[P];rw[Hi];rw[h.ask (λk _=>k==3) (b:=false) rfl,h.ask (λk _=>k==4) (b:=false) rfl,h.ask (λk _=>k==1) (b:=false) rfl];simp only[y];rw[Za];rw[h.is,h.is,h.is,h.is];show(cT T lp>>=_) s=_;have:cT T lp s= .ok true {s with i:=s.i+1}:=by{unfold cT;rw[h.is];rfl};rw[qT this];rfl
theorem apc(h:AZ T s)(f:Nat):P T ae aO wide (f+1) .unary s=P T ae aO wide f .eo s:=by
 rw[P];rw[Hi];rw[h.ask (λk _=>k !=5&&k !=2) (b:=false) rfl,h.ask (λ_ t=>cI wu t) (b:=false) rfl,h.ask (λ_ t=>cI [pp,mm] t) (b:=false) rfl];rfl
theorem ajs(h:AZ T s){f:Nat}(v:P T ae aO wide f .bf {s with i:=s.i+1}= .ok r u)(hp:K T u 0 rp=true)(a:nA T {u with i:=u.i+1}):
  P T ae aO wide (f+17) .bf s= .ok [r.headD 0] {u with i:=u.i+1}:=by
 have e:∀c,c=f+1->P T ae aO wide c .dL s= .ok [r.headD 0] {u with i:=u.i+1}:=by
  rintro _ rfl;rw[amj h,qT (BZ v)];have:cu T ae rp u= .ok () {u with i:=u.i+1}:=by unfold cu;simp[*]
  rw[qT this];rfl
 have j:P T ae aO wide (f+2) .suffix s= .ok [r.headD 0] {u with i:=u.i+1}:=by{rw[P,qT (BZ (e _ rfl))];exact alT a _ _};have k:P T ae aO wide (f+3) .eo s= .ok [r.headD 0] {u with i:=u.i+1}:=by{rw[P,qT (BZ j)];rw[Hi];have:∀l,((I T ae {u with i:=u.i+1}).ak !=5||(l||(!bx (I T ae {u with i:=u.i+1}).aJ pp&& !bx (I T ae {u with i:=u.i+1}).aJ mm)))=true:=λl=>a.ask (λkd b=>kd !=5||(l||(!bx b pp&& !bx b mm))) (by cases l <;> rfl) (by cases l <;> rfl);rw[this];rfl};have m:P T ae aO wide (f+4) .unary s= .ok [r.headD 0] {u with i:=u.i+1}:=by rw[apc h];exact k
 have n:P T ae aO wide (f+5) (.level 10) s= .ok [r.headD 0] {u with i:=u.i+1}:=by rw[P];exact m
 have t:∀d,d<=10->P T ae aO wide (f+5+d) (.level (10-d)) s= .ok [r.headD 0] {u with i:=u.i+1}:=by
  intro d
  induction d with
  |zero=>intro _;exact n
  |succ d w=>
   intro x;have:=w O;show P T ae aO wide ((f+5+d)+1) (.level (10-(d+1))) s=_;rw[P];have p:(10-(d+1)==10)=false:=by simp;omega
   rw[p];simp only[y];rw[show 10-(d+1)+1=10-d by omega,qT (BZ this)];obtain⟨g,q⟩:∃g,f+5+d=g+1:=⟨f+4+d,O⟩;rw[q];exact aja a _ _ _
 have o:P T ae aO wide (f+16) .cond s= .ok [r.headD 0] {u with i:=u.i+1}:=by{have:=t 10 O;rw[P,qT (BZ this),qT (Lk a rfl)];rfl};rw[P,qT (BZ o)];rw[Hi];have:((I T ae {u with i:=u.i+1}).ak !=5|| !cI qQ (I T ae {u with i:=u.i+1}).aJ)=true:=a.ask (λkd b=>kd !=5|| !cI qQ b) rfl rfl;rw[this];rfl
end
end
section
structure LE{α:Type}(m m':j α):Prop where
 h:∀s,m s= .out\/m' s=m s
section
variable{α β:Type}
theorem LE.refl(m:j α):LE m m:=⟨λ_=>.inr rfl⟩
theorem LE.bind{m c:j α}{k b:α->j β}(h:LE m c)(U:∀a,LE (k a) (b a)):LE (m>>=k) (c>>=b):=by
 refine⟨λs=>?_⟩;show bP m k s=_\/bP c b s=bP m k s;unfold bP;rcases h.h s with h|h;rw[h];exact .inl rfl;rw[h];cases m s with
 |ok a t=>exact(U a).h t
 |stop p e t=>exact .inr rfl
 |out=>exact .inl rfl
theorem LE.one{m a:j (aM)}(h:LE m a):LE (Go.Proofs.YthhiffpfleacaaaGreatDoor.one m) (Go.Proofs.YthhiffpfleacaaaGreatDoor.one a):=by
 exact LE.bind h λ_=>LE.refl _
theorem LE.bif{b:Bool}{m a n c:j α}(d:LE m a)(e:LE n c):LE (bif b then m else n) (bif b then a else c):=by cases b;exact e;exact d
end
section
variable(L:List a8)(ae:Int)(aO:Nat->ah)(wide:ah->ah)
theorem adh:∀(f:Nat)(a:aj),LE (P L ae aO wide f a) (P L ae aO wide (f+1) a):=by
 intro f
 induction f with
 |zero=>intro a;refine⟨λs=>?_⟩;rw[P];exact .inl rfl
 |succ f b=>
  intro a;cases a <;> (rw[P,P];repeat' (first|intro _|with_reducible apply LE.bind|with_reducible apply LE.bif|with_reducible apply LE.one|with_reducible exact b _|with_reducible exact LE.refl _))
theorem JF{f g:Nat}(h:f<=g)(tag:aj)(s:ap):P L ae aO wide f tag s= .out\/P L ae aO wide g tag s=P L ae aO wide f tag s:=by
 induction g with
 |zero=>have:f=0:=O;subst this;exact .inr rfl
 |succ g c=>
  by_cases b:f=g+1;subst b;exact .inr rfl;rcases c O with h|h;exact .inl h;rcases(adh L ae aO wide g tag).h s with a|a;rw[a]at h;exact .inl h.symm;exact .inr (a.trans h)
end
end
section
def ap.az(s:ap):ap:=⟨s.i+1,s.a,s.h,s.loops,s.d⟩
def ap.add(s:ap)(x:aR):ap:=⟨s.i,s.a++[x],s.h,s.loops,s.d⟩
section
variable{α β:Type}{ae:Int}{L:List a8}{aO:Nat->ah}{wide:ah->ah}{s t:ap}
theorem o7{k:a8->j β}:(gk L ae>>=k) s=k (I L ae s) s:=rfl
theorem nt{k:ap->j β}:(fd>>=k) s=k s s:=rfl
variable{b:Bool}{T:ah}{x:aR}{a e p:Int}{m:j (aM)}{u:ap}
theorem C1{k:ax->j β}:(jU u>>=k) s=k () u:=rfl
theorem mc{k:ax->j β}:(fh>>=k) s=k () s.az:=rfl
theorem CZ{k:Int->j β}:(fz a>>=k) s=k (dG s a) s:=rfl
theorem Az{k:Int->j β}:(dX x>>=k) s=k s.a.length (s.add x):=rfl
theorem jy:cj x s= .ok [(s.a.length:Int)] (s.add x):=rfl
theorem iX{a:α}{k:α->j β}:(ret a>>=k) s=k a s:=rfl
theorem C0{a:α}:ret a s= .ok a s:=rfl
theorem Jb{a:Nat}{k:Bool->j β}:(jM L a T>>=k) s=k (K L s a T) s:=rfl
theorem Ja{k:α->j β}:(ju L ae>>=k) s= .stop (I L ae s).au 60 s:=rfl
theorem mb{k:Bool->j β}(h:K L s 0 T=true):(cT L T>>=k) s=k true s.az:=by
 show bP (cT L T) k s=_;unfold bP cT;rw[h];rfl
theorem mO{k:Bool->j β}(h:K L s 0 T=false):(cT L T>>=k) s=k false s:=by
 show bP (cT L T) k s=_;unfold bP cT;rw[h];rfl
theorem wh{k:ax->j β}(h:K L s 0 T=true):(cu L ae T>>=k) s=k () s.az:=by
 show bP (cu L ae T) k s=_;unfold bP cu;rw[h];rfl
theorem Jd{k:ax->j β}(h:K L s 0 T=false):(cu L ae T>>=k) s= .stop (I L ae s).au 60 s:=by
 show bP (cu L ae T) k s=_;unfold bP cu;rw[h];rfl
def lq(s:ap)(k:Int)(a:Bool):Bool:=uc s k !=8&&(uc s k !=9&&(uc s k !=3|| !a))
theorem O5{k:ax->j β}(h:lq s a b=false):(mD a b>>=k) s=k () s:=by
 show bP (mD a b) k s=_;unfold lq at h;unfold bP mD;rw[h];rfl
theorem O4{k:ax->j β}(h:lq s a b=true):(mD a b>>=k) s= .stop (dG s a) 61 s:=by
 show bP (mD a b) k s=_;unfold lq at h;unfold bP mD;rw[h];rfl
theorem O7{k:ah->j β}(h:(I L ae s).ak=1):(iM L ae>>=k) s=k (I L ae s).aJ s.az:=by
 show bP (iM L ae) k s=_;unfold bP iM;rw[h];rfl
theorem O6{k:ah->j β}(h:(I L ae s).ak≠1):(iM L ae>>=k) s= .stop (I L ae s).au 60 s:=by
 show bP (iM L ae) k s=_;have e:((I L ae s).ak !=1)=true:=by simpa using h
 unfold bP iM;rw[e];rfl
theorem WJ{k:ax->j β}(h:eh L ae s= .ok () u):(eh L ae>>=k) s=k () u:=by
 show bP (eh L ae) k s=_;unfold bP;rw[h]
theorem WK{k:ax->j β}(h:eh L ae s= .stop p e u):(eh L ae>>=k) s= .stop p e u:=by
 show bP (eh L ae) k s=_;unfold bP;rw[h]
theorem tu{k:Int->j β}(h:ec L ae aO wide s= .ok a u):(ec L ae aO wide>>=k) s=k a u:=by
 show bP (ec L ae aO wide) k s=_;unfold bP;rw[h]
theorem Jc{k:Int->j β}(h:ec L ae aO wide s= .stop p e u):(ec L ae aO wide>>=k) s= .stop p e u:=by
 show bP (ec L ae aO wide) k s=_;unfold bP;rw[h]
theorem O3{k:Int->j β}:(kF L ae>>=k) s=k s.a.length (s.add ⟨36,.empty,0,[],(I L ae s).au⟩):=rfl
theorem F0{m:j α}{k:α->j β}{a:α}(h:m s= .ok a t):(m>>=k) s=k a t:=by
 show bP m k s=_;unfold bP;rw[h]
theorem F1{m:j α}{k:α->j β}(h:m s= .stop p e t):(m>>=k) s= .stop p e t:=by
 show bP m k s=_;unfold bP;rw[h]
theorem O2{m:j α}{k:α->j β}(h:(m>>=k) s≠.out):m s≠.out:=λe=>h (by
 show bP m k s=_;unfold bP;rw[e])
theorem abm{k:Int->j β}(h:m s= .ok [a] t):(one m>>=k) s=k a t:=F0 (BZ h)
theorem akD(h:m s= .stop p e t):one m s= .stop p e t:=by
 unfold one bP;rw[h]
theorem abn{k:Int->j β}(h:m s= .stop p e t):(one m>>=k) s= .stop p e t:=F1 (akD h)
theorem WI{k:Int->j β}(h:(one m>>=k) s≠.out):m s≠.out:=λe=>O2 h (by
 unfold one bP;rw[e])
end
end
section
open Go Go.ChangeShapes Go.WideShapes Go.ChangeAt Go.RowKit
section
variable{H:Type}{h_:TypeId×aD->H}{P:Program}{W:World}{wV:Nat}{aoA:Nat->Bool}{held:Bool}
end
end
section
open Go Go.ChangeShapes Go.WideShapes Go.ChangeAt Go.RowKit
def rR{α β:Type}(R:α->β->Prop):List α->List β->Prop
 | [],[]=>True
 |a::l,b::m=>R a b/\rR R l m
 |_,_=>False
def rR.mono{α β:Type}{R c:α->β->Prop}(d:∀a b,R a b->c a b):∀{l:List α}{m:List β},rR R l m->rR c l m
 | [],[],_=>trivial
 | [],_::_,h=>h.elim
 |_::_,[],h=>h.elim
 |_::_,_::_,h=>⟨d _ _ h.1,rR.mono d h.2⟩
def W4{α β:Type}{R:α->β->Prop}{a:α}{b:β}(c:R a b):∀{l:List α}{m:List β},rR R l m->rR R (l++[a]) (m++[b])
 | [],[],_=>⟨c,ai⟩
 | [],_::_,h=>h.elim
 |_::_,[],h=>h.elim
 |_::_,_::_,h=>⟨h.1,W4 c h.2⟩
section
variable{H:Type}{h_:TypeId×aD->H}{P:Program}{W:World}{wV:Nat}{aoA:Nat->Bool}{held:Bool}
end
end
section
structure bY where
 b:Nat
 la:bv
 lc:Nat
 L:List a8
 ae:Int
def bY.cells(x:bY)(v:aD)(s:ap):aN:=[.slice x.la x.L.length x.lc,.int .i64 s.i,.int .i64 x.ae,v,.int .i64 s.h,.int .i64 s.loops,.int .i64 s.d]
def BC(x:aR)(v:aD):aN:=[.int .i64 x.ak,.string x.op,.float .f64 x.aT,v,.int .i64 x.au]
def p6:List aR->aN->aN
 |x::b,v::a=>BC x v++p6 b a
 |_,_=>[]
def YL:∀(a:List aR)(b:aN),a.length=b.length->(p6 a b).length=a.length*5
 | [],[],_=>rfl
 |x::a,v::b,h=>by
  have:=YL a b (by simpa using h);rw[p6,eH,this,kI];show 5+a.length*5=_;omega
 | [],_::_,h=>by simp at h
 |_::_,[],h=>by simp at h
def YM:∀(a:List aR)(b:aN)(x:aR)(v:aD),a.length=b.length->p6 (a++[x]) (b++[v])=p6 a b++BC x v
 | [],[],x,v,_=>by simp[p6]
 |y::a,u::b,x,v,h=>by
  have:=YM a b x v (by simpa using h);rw[List.cons_append,List.cons_append,p6,this,p6,jJ]
 | [],_::_,_,_,h=>by simp at h
 |_::_,[],_,_,h=>by simp at h
def K6:∀(b:List aR)(c:aN)(i j:Nat)(x:aR)(v u:aD),b[i]?=some x->c[i]?=some v->(BC x v)[j]?=some u->(p6 b c)[i*5+j]?=some u
 | [],_,i,j,x,v,u,h,_,_=>by simp at h
 |_::_,[],i,j,x,v,u,_,h,_=>by simp at h
 |y::b,w::c,0,j,x,v,u,h,a,d=>by
  have h:y=x:=by simpa using h
  have a:w=v:=by simpa using a
  subst h a;have f:=(ic.1 d).1;rw[p6,Nat.zero_mul,gZ,m5 f];exact d
 |y::b,w::c,i+1,j,x,v,u,h,a,d=>by
  have e:(BC y w).length=5:=rfl;rw[p6,lQ O,e,show(i+1)*5+j-5=i*5+j by omega];exact K6 b c i j x v u (by simpa using h) (by simpa using a) d
def AX(I:aX)(a:List aR)(vs:aN):Prop:=rR (λx v=>Dn I 1 v (a7 x.b)) a vs
def Kf.rest(a:List aR)(vs:aN):JJ where
 holds I _ _:=AX I a vs
 El _ _ _ _ _ h:=h
 mono _ _ _ _ h k:=rR.mono (λ_ _ q=>q.mono h) k
def gx(a:List aR)(vs:aN):ag:=.cJ (Kf.rest a vs)
structure fT where
 r:Row
 vs:aN
def fT.ok(y:fT)(a:List aR):Prop:=bl 35 5 (p6 a y.vs) y.r/\a.length=y.vs.length
def EE(x:bY)(s:ap)(y:fT):ag:=tR [.cells x.b (x.cells y.r.v s) 41,y.r.A,gx s.a y.vs]
def Ps.rest(x:bY)(s:ap):JJ where
 holds I h o:=∃y:fT,y.ok s.a/\(EE x s y).holds I h o
 El I h e o d:=λ⟨y,a,b⟩=>⟨y,a,ag.local d b⟩
 mono I J h o c:=λ⟨y,a,b⟩=>⟨y,a,ag.mono c b⟩
def G(x:bY)(s:ap):ag:=.cJ (Ps.rest x s)
variable{A F:ag}{I:aX}{y:fT}{w:World}
theorem fT.ok.len{a:List aR}(h:y.ok a):y.r.n=a.length:=by
 have b:=h.1.len;rw[YL _ _ h.2]at b;omega
theorem L_{x:bY}{s:ap}(h:Sat I (bu [G x s,F]) w):∃y:fT,y.ok s.a/\Sat I (bu [.cells x.b (x.cells y.r.v s) 41,y.r.A,gx s.a y.vs,F]) w:=by
 obtain⟨y,d,c⟩:=h.SH (Y:=fT) (R:=λy=>y.ok s.a) (B:=λy=>EE x s y) 0 λ_ _⟨y,b,a⟩=>⟨y,b,a⟩;have a:Sat I (bu ([F]++[EE x s y])) w:=c.pick [1,0] rfl rfl;exact⟨y,d,a.abL.pick [1,2,3,0] rfl rfl⟩
theorem amq{x:bY}{s:ap}(h:Sat I (bu [G x s,A,F]) w):∃y:fT,y.ok s.a/\Sat I (bu [.cells x.b (x.cells y.r.v s) 41,y.r.A,gx s.a y.vs,A,F]) w:=by
 obtain⟨y,d,c⟩:=h.SH (Y:=fT) (R:=λy=>y.ok s.a) (B:=λy=>EE x s y) 0 λ_ _⟨y,b,a⟩=>⟨y,b,a⟩;have a:Sat I (bu ([A,F]++[EE x s y])) w:=c.pick [1,2,0] rfl rfl;exact⟨y,d,a.abL.pick [2,3,4,0,1] rfl rfl⟩
theorem Ma{x:bY}{s:ap}(c:y.ok s.a):ay (bu [.cells x.b (x.cells y.r.v s) 41,y.r.A,gx s.a y.vs,F]) (bu [G x s,F]):=⟨λI w h=>by
 have a:Sat I (bu ([F]++[.cells x.b (x.cells y.r.v s) 41,y.r.A,gx s.a y.vs])) w:=h.pick [3,0,1,2] rfl rfl;have b:=a.X_.FT (B:=G x s) 1 λ_ _ q=>⟨y,c,q⟩;exact⟨I,aX.le_refl I,b.pick [1,0] rfl rfl⟩⟩
theorem ee{x:bY}{s:ap}{k:Nat}{u:aD}(h:∀v,(x.cells v s)[k]?=some u):aH (G x s) ⟨x.b,k,none⟩ u:=⟨λI a o c⟨y,_,b⟩=>(acY 0 rfl (aH.cells (h y.r.v)):aH (EE x s y) ⟨x.b,k,none⟩ u).h I a o c b⟩
structure gX(x:bY)(F:ag):Prop where
 af:e6 5 (iF x.L) x.la x.L.length
 FZ:e8 F x.la (iF x.L)
theorem gX.sub{x:bY}{B:ag}(hs:Sub A B)(h:gX x A):gX x B:=⟨h.af,h.FZ.sub hs⟩
def bY.p(x:bY)(s:ap):dm:=⟨x.b,x.la,x.lc,x.L,x.ae,s.i⟩
theorem gX.dc{x:bY}(h:gX x F){S:St}{a:a_}{s:ap}(i j:Nat)(b:i∉a)(e:j∉a)(c:gt S i=G x s)(d:gt S j=F):j4 (x.p s) (.cJ (rest S a)):=by
 refine⟨aH.rest b ?_,aH.rest b ?_,aH.rest b ?_,h.af,h.FZ.sub (jk j e d)⟩ <;> rw[c] <;> exact ee λ_=>rfl
structure yL where
 x:bY
 s:ap
 t:ap
 k:Nat
 v:aD
abbrev fQ:aF where
 X:=yL
 args x:=[W (some ⟨x.x.b,x.k,none⟩),x.v]
 pre x:=[G x.x x.s]
 cond x:=(∀u,(x.x.cells u x.s).set x.k x.v=x.x.cells u x.t)/\x.t.a=x.s.a/\x.k<7/\x.v.oneCell'=true/\x.v.cells=#[x.v]
 val _ _:=al undef
 post x _:=[G x.x x.t]
theorem gM{P:Program}{o:Oper}{a v:Operand}{t:TypeId}{i:TypeInfo}(B:o.op= .store t a v)(H:P.info? t=some i)(U:i.size=1):gY P o fQ:=by
 refine⟨λq F I w ρ E G M K=>?_⟩;obtain⟨x,s,l,k,u⟩:=q;obtain⟨c,A,g,D,f⟩:=G;dsimp only at c A g D f;simp only[B,Op.operands,fQ]at E;have m:ρ a= .pointer (some ⟨x.b,k,none⟩)/\ρ v=u:=by grind
 obtain⟨hp,L⟩:=m;obtain⟨y,N,h⟩:=L_ (F:=F) K;have e:w.heap[x.b]?=some (.cells ⟨x.cells y.r.v s⟩ 41 (0,0)):=h.cells (j:=0) rfl;have d:=run_storeCells_at P x.b k 41 [u] 0 ⟨x.cells y.r.v s⟩ w e (by show k+0+1<=7;omega) (by simp[*]);have C:(x.cells y.r.v s).take k++[u]++(x.cells y.r.v s).drop (k+1)=x.cells y.r.v l:=by{rw[<-c,List.set_eq_take_append_cons_drop,if_pos (by show k<7;exact g)];simp};simp only[Nat.add_zero,zc]at d;rw[C]at d;have p:=h.setRow (j:=0) (b:=x.b) (vs:=x.cells y.r.v s) (t:=41) (F7:=x.cells y.r.v l) rfl;have r:Sat I (bu [.cells x.b (x.cells y.r.v l) 41,y.r.A,gx l.a y.vs,F]) (w.setRow x.b ⟨x.cells y.r.v l⟩):=by rw[A];exact p
 obtain⟨J,n,z⟩:=(Ma (by simp[*])).h I _ r;exact⟨(),J,_,undef,ai,.inr ⟨by simp[execOp,B,hp,L,Instr.storeAt,Instr.sureAddr,storeVar,sizeOf,typeInfo,H,U,f,d],rfl⟩,rfl,n,z,Y⟩
end
end Go.Proofs.YthhiffpfleacaaaGreatDoor
