/- A part of the proof that pennantlaw23.BasicBack answers true at every input. -/
import Derived.Test.YtjdabjmjldiodaaGreatDoorPBah
set_option linter.all false
namespace Go.Proofs.YtjdabjmjldiodaaGreatDoor
set_option maxRecDepth 100000
open Go.Value (int slice string bool pointer agg tuple func float iface nilIface)
open Go.IntKind (i64 u8 u64 i32 u32 u16 i8 i16)
open Go.FloatKind (f64)
open Go.Ending (returned panicked)
section
open Go
section
variable {P : Program} {N : Nat}
theorem wp_cut (hm : P.follows .mixedOrders = true) {H : Hints} {x y z : Code} {key : Nat} {T : Tm} {S : St} {K : Exit → Tm → St → Prop} {a : Act} {I : Imm} {w : World} {ds : List Deferred} {Q : Exit → Act → World → Prop} {V : Inv}
    (hcut : (firstRegion y).bind H.cut = some V) (hgh : V.gh = none) (h : E P N H (.seq x y) key T S K) (hrel : Rel N T a) (hd : a.defers = ds) (hs : Sat I S w)
    (hQ : ∀ e a' w', e ≠ .normal → Aft N I w ds (K e) a' w' → Q e a' w')
    (hz : ∀ d js J a' w', V.P d → E P N H y key (over js (V.lv d)) (ofL (V.st d)) K → Rel N (over js (V.lv d)) a' → a'.defers = ds → Imm.le I J → Sat J (ofL (V.st d)) w' → Env w w' → z.wp P Q a' w') : (Code.seq x z).wp P Q a w := by
  simp only [E] at h
  rw [hcut] at h
  have h : (E P N H x key T S λe T S => match e with | .normal => ∃ x, V.P x ∧ Eqs T (V.lv x) ∧ Ent S (ofL (V.st x)) | e => K e T S) ∧ ∀ x js, V.P x → E P N H y key (over js (V.lv x)) (ofL (V.st x)) K := by
    dsimp only at h
    split at h
    · exact h
    · rename_i g hg
      rw [hgh] at hg
      cases hg
  refine wp_seq (E_sound hm H x h.1 hrel hd hs λe a' w' haft => ?_)
  cases e with
  | normal =>
    obtain ⟨T', S', J, h1, h2, h3, h4, h5, d, hp, he, hent⟩ := haft
    obtain ⟨J', hle, hs'⟩ := hent.h J w' h4
    exact hz d T'.at J' a' w' hp (h.2 d T'.at hp) (over_rel h1 he) h2 (Imm.le_trans h3 hle) hs' h5
  | _ => exact hQ _ _ _ (λe => nomatch e) haft
end
theorem E_cut {P : Program} {N : Nat} {H : Hints} {x y : Code} {key : Nat} {T : Tm} {S : St} {K : Exit → Tm → St → Prop} {V : Inv} (hcut : (firstRegion y).bind H.cut = some V) (hgh : V.gh = none) (h : E P N H (.seq x y) key T S K) : ∀ d js, V.P d → E P N H y key (over js (V.lv d)) (ofL (V.st d)) K := by
  simp only [E] at h
  rw [hcut] at h
  dsimp only at h
  split at h
  · exact h.2
  · rename_i g hg
    rw [hgh] at hg
    cases hg
theorem wpOps_cons {P : Program} {ops : Array Oper} {Q : Exit → Act → World → Prop} {a : Act} {w : World} {i : Nat} {rest : List Nat} {o : Oper} (ho : ops[i]? = some o) (hg : o.guard = none) (h : o.wp P a w (wpOps P ops Q rest) Q) : wpOps P ops Q (i :: rest) a w := by
  simp only [wpOps, ho]
  have : Region.wanted o (yielded ops a.tmps) = true := by unfold Region.wanted; rw [hg]
  rw [if_pos this]
  exact .inl h
theorem wpOpsS_cons {P : Program} {ops : Array Oper} {Q : Exit → Act → List Frame → World → Prop} {a : Act} {cs cs' : List Frame} {w w' : World} {i : Nat} {rest : List Nat} {o : Oper} {v : Value} (ho : ops[i]? = some o) (hg : o.guard = none)
    (hr : ((execOp a.eval o).run P w = .ok .recover w' ∧ (recoverD cs = some (v, cs') ∨ (recoverD cs = none ∧ v = .nilIface ∧ cs' = cs))) ∨ ((execOp a.eval o).run P w = .ok (.value v) w' ∧ cs' = cs))
    (h : wpOpsS P ops Q rest (a.put o.dst v) cs' w') : wpOpsS P ops Q (i :: rest) a cs w := by
  simp only [wpOpsS, ho]
  have : Region.wanted o (yielded ops a.tmps) = true := by unfold Region.wanted; rw [hg]
  rw [if_pos this]
  rcases hr with ⟨hr, h1 | ⟨h1, rfl, rfl⟩⟩ | ⟨hr, rfl⟩
  · rw [hr]; simp only [h1]; exact h
  · rw [hr]; simp only [h1]; exact h
  · rw [hr]; exact h
def pV (b : Nat) : Value := .pointer (some ⟨b, 0, none⟩)
def capD (b4 b5 : Nat) : Deferred := { target := .fn (.func 25) #[pV b4, pV b5], args := #[] }
theorem wp_deferred {Q : Exit → Act → World → Prop} {T : Tm} {a : Act} {w : World} {b4 b5 : Nat} (hrel : Rel 23 T a) (h4 : T.at 4 = pV b4) (h5 : T.at 5 = pV b5)
    (h : ∀ T' a', a'.defers = capD b4 b5 :: a.defers → Rel 23 T' a' → (∀ i, i ≠ 7 → T'.at i = T.at i) → Q .normal a' w) : (cHd (cTl 1 stc)).wp Tryz.prog Q a w := by
  have e : cHd (cTl 1 stc) = .region 1 #[opIn Tryz.f12 1 0, opIn Tryz.f12 1 1] false := by kernel_rfl
  rw [e]
  refine wp_region ?_
  show wpOps _ _ _ [0, 1] a w
  have r1 : (execOp (ev T) (opIn Tryz.f12 1 0)).run Tryz.prog w = .ok (.value (.func (.func 25) #[] #[T.at 4, T.at 5])) w := by kernel_rfl
  refine wpOps_cons (o := opIn Tryz.f12 1 0) rfl rfl ?_
  unfold Oper.wp
  rw [hrel.eval, r1, Oper.upon_value]
  have hrel2 := hrel.put (opIn Tryz.f12 1 0).dst (.func (.func 25) #[] #[T.at 4, T.at 5])
  refine wpOps_cons (o := opIn Tryz.f12 1 1) rfl rfl ?_
  unfold Oper.wp
  have r2 : (execOp (ev (putT 23 (opIn Tryz.f12 1 0).dst (.func (.func 25) #[] #[T.at 4, T.at 5]) T)) (opIn Tryz.f12 1 1)).run Tryz.prog w = .ok (.defer { target := .fn (.func 25) #[T.at 4, T.at 5], args := #[] }) w := by kernel_rfl
  rw [hrel2.eval, r2, Oper.upon_defer]
  refine h _ _ ?_ ((hrel2.defers _).put (opIn Tryz.f12 1 1).dst undef) ?_
  · rw [put_defers, h4, h5]
    show _ :: (a.put _ _).defers = _
    rw [put_defers] <;> rfl
  · intro i hi
    show (putT 23 none undef (putT 23 (some 7) _ T)).at i = _
    show (putT 23 (some 7) _ T).at i = _
    rw [putT_at]
    rw [if_neg (λh => hi h.2)]
theorem code25 : codeOf Tryz.f25 = .seq (.region 0 #[opIn Tryz.f25 0 0, opIn Tryz.f25 0 1] false) (cTl 1 (codeOf Tryz.f25)) := by kernel_rfl
theorem code25b : ∃ A, cTl 1 (codeOf Tryz.f25) = .seq (.region 1 #[opIn Tryz.f25 1 0, opIn Tryz.f25 1 1] false) (.cond (.tmp 5) A .skip) := ⟨match cTl 2 (codeOf Tryz.f25) with | .cond _ a _ => a | c => c, by kernel_rfl⟩
theorem catch_head {Q : Exit → Act → List Frame → World → Prop} {b4 b5 : Nat} {v : Value} {cs cs' : List Frame} {w : World} (hr : recoverD cs = some (v, cs') ∨ (recoverD cs = none ∧ v = .nilIface ∧ cs' = cs))
    (h : ∀ T a, Rel 9 T a → a.defers = [] → T.at 0 = pV b4 → T.at 1 = pV b5 → T.at 2 = v → (cTl 1 (codeOf Tryz.f25)).wpS Tryz.prog Q a cs' w) :
    (codeOf Tryz.f25).wpS Tryz.prog Q { tmps := #[pV b4, pV b5] ++ Array.replicate (9 - 2) undef, defers := [] } cs w := by
  rw [code25]
  refine wpS_seq (wpS_region ?_)
  have hrel := rel_ent (N := 9) [pV b4, pV b5] (Nat.le_of_ble_eq_true rfl)
  show wpOpsS _ _ _ [0, 1] { tmps := ⟨[pV b4, pV b5]⟩ ++ Array.replicate (9 - 2) undef, defers := [] } cs w
  refine wpOpsS_cons (v := v) (cs' := cs') (w' := w) (o := opIn Tryz.f25 0 0) rfl rfl (.inl ⟨?_, hr⟩) ?_
  · rw [show (execOp _ (opIn Tryz.f25 0 0)).run Tryz.prog w = .ok .recover w from rfl]
  have hrel2 := hrel.put (opIn Tryz.f25 0 0).dst v
  refine wpOpsS_cons (v := v) (cs' := cs') (w' := w) (o := opIn Tryz.f25 0 1) rfl rfl (.inr ⟨?_, rfl⟩) ?_
  · have : (execOp (ev (putT 9 (opIn Tryz.f25 0 0).dst v (ent [pV b4, pV b5]))) (opIn Tryz.f25 0 1)).run Tryz.prog w = .ok (.value v) w := by kernel_rfl
    rw [← hrel2.eval] at this
    exact this
  have hrel3 := hrel2.put (opIn Tryz.f25 0 1).dst v
  exact h _ _ hrel3 (by rw [put_defers, put_defers]) (by kernel_rfl) (by kernel_rfl) (by kernel_rfl)
theorem catch_idle (b4 b5 : Nat) (w : World) : CallsD Tryz.prog 25 #[pV b4, pV b5] .returning w λe u' w' => e = .returned (.tuple #[]) ∧ u' = .returning ∧ w' = w := by
  refine callsD_of_wpS (c := codeOf Tryz.f25) Tryz.func25 (by kernel_rfl) λc₀ cs hu => ?_
  refine catch_head (v := .nilIface) (cs' := c₀ :: cs) (.inr ⟨by simp [recoverD, hu], rfl, rfl⟩) λT a hrel hd _ _ h2 => ?_
  obtain ⟨A, hA⟩ := code25b
  rw [hA]
  refine wpS_of_wp (wp_seq (wp_region ?_))
  show wpOps _ _ _ [0, 1] a w
  have hrel' : Rel 9 (over T.at [(2, .nilIface)]) a := over_rel hrel ⟨h2, fo_tv⟩
  refine wpOps_cons (o := opIn Tryz.f25 1 0) rfl rfl ?_
  unfold Oper.wp
  rw [hrel'.eval, show (execOp (ev (over T.at [(2, .nilIface)])) (opIn Tryz.f25 1 0)).run Tryz.prog w = .ok (.value .nilIface) w by kernel_rfl, Oper.upon_value]
  have hrel2 := hrel'.put (opIn Tryz.f25 1 0).dst .nilIface
  refine wpOps_cons (o := opIn Tryz.f25 1 1) rfl rfl ?_
  unfold Oper.wp
  rw [hrel2.eval, show (execOp (ev (putT 9 (opIn Tryz.f25 1 0).dst .nilIface (over T.at [(2, .nilIface)]))) (opIn Tryz.f25 1 1)).run Tryz.prog w = .ok (.value (.bool false)) w by kernel_rfl, Oper.upon_value]
  have hrel3 := hrel2.put (opIn Tryz.f25 1 1).dst (.bool false)
  show Code.wp _ _ _ _ _
  refine wp_cond (t := false) ?_ (wp_skip ?_)
  · rw [hrel3.eval]; kernel_rfl
  · refine ⟨by rw [put_defers, put_defers]; exact hd, .returning, ?_, .tuple #[], by kernel_rfl, rfl, rfl, rfl⟩
    rw [← hu]
theorem catch_pan {b4 b5 : Nat} {F : Atom} {I : Imm} {w : World} (hs : Sat I (ofL (stdC.pre ⟨b4, b5⟩ ++ [F])) w) : CallsD Tryz.prog 25 #[pV b4, pV b5] (.panicking [⟨eqV 112, false, false⟩]) w λe' u' w' => e' = .returned (.tuple #[]) ∧ u' = .panicking [⟨eqV 112, true, false⟩] ∧ ∃ J, Imm.le I J ∧ Sat J (ofL (stdC.post ⟨b4, b5⟩ () ++ [F])) w' ∧ Env w w' := by
  refine callsD_of_wpS (c := codeOf Tryz.f25) Tryz.func25 (by kernel_rfl) λc₀ cs hu => ?_
  refine catch_head (v := eqV 112) (cs' := { c₀ with mode := .panicking [⟨eqV 112, true, false⟩] } :: cs) (.inl (by simp [recoverD, hu])) λT a hrel hd h0 h1 h2 => ?_
  have hb := std_body ⟨b4, b5⟩ F trivial trivial
  unfold BodyD at hb
  have hE := E_cut (V := (stdCut ⟨b4, b5⟩ F 1).get rfl) (by kernel_rfl) rfl (show E _ _ _ (.seq .skip (cTl 1 (codeOf Tryz.f25))) _ _ _ _ from hb) () T.at trivial
  refine wpS_of_wp (E_sound (by kernel_rfl) _ _ hE (over_rel hrel ⟨h0, h1, h2, fo_tv⟩) hd (hs.pick [2, 0, 1] rfl rfl) λx a' w' haft => ?_)
  obtain ⟨T', S', J, g1, g2, g3, g4, g5, g6⟩ := haft
  have fin : rd Tryz.prog S' (resSem std T') [] (λv => Done stdC ⟨b4, b5⟩ F (.returned v) S') → bodyPostS Tryz.prog Tryz.f25 c₀ cs (λe' u' w' => e' = .returned (.tuple #[]) ∧ u' = .panicking [⟨eqV 112, true, false⟩] ∧ ∃ J, Imm.le I J ∧ Sat J (ofL (stdC.post ⟨b4, b5⟩ () ++ [F])) w' ∧ Env w w') .normal a' ({ c₀ with mode := .panicking [⟨eqV 112, true, false⟩] } :: cs) w' := by
    intro g6
    obtain ⟨v, hrun, ⟨⟨_, _, hv, hent⟩⟩⟩ := rd_sound g4 _ _ _ g6
    obtain ⟨J', hle, hs2⟩ := hent.h J w' g4
    exact ⟨g2, _, rfl, .tuple #[], by kernel_rfl, rfl, rfl, J', Imm.le_trans g3 hle, hs2, g5⟩
  cases x with
  | normal => exact fin g6
  | ret => exact fin g6
  | panic ch =>
    obtain ⟨_, ⟨⟨_, _, hv, _⟩⟩⟩ := g6
    cases hv
  | _ => exact g6.elim
structure StrY where
  k : Int
  s : ByteArray
  e : Int
def strV (q : ByteArray) : StrY := bif decide (q.size ≤ 16384) then ⟨4, q, 0⟩ else ⟨0, ⟨#[]⟩, 112⟩
abbrev strC : Con where
  X := Tg
  Y := StrY
  args x := [.pointer (some ⟨x.h, 0, none⟩), .agg #[.int .i64 x.c0, .float .f64 x.f, .string x.s, .int .i64 0]]
  pre _ := []
  cond x := x.good
  rdc x F := Utf F ∧ x.Rd F ∧ x.good
  rel x y := y = strV x.q
  val _ y := .returned (.tuple #[.agg #[.int .i64 y.k, .float .f64 0, .string y.s, .int .i64 0], .int .i64 y.e])
  post _ _ := []
  rmono _ _ _ hs h := ⟨h.1.sub hs, h.2.2.sub hs h.2.1, h.2.2⟩
theorem code12 : Tryz.f12.body = some (.seq (cHd stc) (.seq (cHd (cTl 1 stc)) (cTl 2 stc))) := by kernel_rfl
theorem str_end {x : SbX} {F : Atom} {I : Imm} {w : World} {R : Ending → World → Prop}
    (hret : ∀ w' J, x.g.q.size ≤ 16384 → Imm.le I J → Sat J (ofL [F]) w' → Env w w' → R (.returned (.tuple #[txV x.g.q, .int .i64 0])) w')
    (hpan : ∀ w' J, 16384 < x.g.q.size → Imm.le I J → Sat J (ofL [F]) w' → Env w w' → R (.returned (.tuple #[.agg #[.int .i64 0, .float .f64 0, .string ⟨#[]⟩, .int .i64 0], .int .i64 112])) w') :
    ∀ e a' w', Aft 23 I w [capD x.b4 x.b5] ((λe T S => match e with
    | .normal => match stbL x with | [] => True | _ :: _ => rd Tryz.prog S (resSem stb T) rh5 λv => Done stbC x F (.returned v) S
    | .ret => rd Tryz.prog S (resSem stb T) rh5 λv => Done stbC x F (.returned v) S
    | .panic ch => Eqs T (stbL x) ∧ Done stbC x F (.panicked ch) S
    | _ => False : Exit → Tm → St → Prop) e) a' w' → bodyPostD Tryz.prog Tryz.f12 R e a' w' := by
  intro e a' w' haft
  obtain ⟨T', S', J, g1, g2, g3, g4, g5, g6⟩ := haft
  have fin : rd Tryz.prog S' (resSem stb T') rh5 (λv => Done stbC x F (.returned v) S') → Leaves Tryz.prog Tryz.f12 a'.tmps R a'.defers .returning w' := by
    intro g6
    obtain ⟨v, hrun, ⟨⟨y, hy, hv, hent⟩⟩⟩ := rd_sound g4 _ _ _ g6
    obtain ⟨J', hle, hs2⟩ := hent.h J w' g4
    rw [g2]
    refine leaves_cons (by simp) (f := 25) (args := #[pV x.b4, pV x.b5]) (by kernel_rfl) ((catch_idle _ _ _).mono ?_)
    rintro _ _ w2 ⟨rfl, rfl, e2⟩
    replace e2 := e2.symm
    subst e2
    have hres : (results Tryz.f12 a'.tmps).run Tryz.prog w' = .ok v w' := by
      rw [show results Tryz.f12 a'.tmps = results stb a'.tmps from rfl, results_eq g1]; exact hrun
    match y, hy, hv, hs2 with
    | .inl a, hy, hv, hs2 => exact ⟨v, hres, hv ▸ hret w' J' hy (Imm.le_trans g3 hle) hs2 g5⟩
    | .inr a, hy, hv, hs2 => cases hv
  cases e with
  | normal => exact fin g6
  | ret => exact fin g6
  | panic ch =>
    obtain ⟨hq, ⟨⟨y, hy, hv, hent⟩⟩⟩ := g6
    match y, hy, hv, hent with
    | .inl a, hy, hv, hent => cases hv
    | .inr _, hy, hv, hent =>
      obtain ⟨J', hle, hs2⟩ := hent.h J w' g4
      cases hv
      show Leaves Tryz.prog Tryz.f12 a'.tmps R a'.defers _ w'
      rw [g2]
      refine leaves_cons (by simp) (f := 25) (args := #[pV x.b4, pV x.b5]) (by kernel_rfl) ((catch_pan (F := F) hs2).mono ?_)
      rintro _ _ w2 ⟨rfl, rfl, J2, hle2, hs3, he3⟩
      have hrd : rd Tryz.prog (ofL (stdC.post ⟨x.b4, x.b5⟩ () ++ [F])) (resSem Tryz.f12 (over T'.at (stbL x))) [.aq 0, .aq 0, .aq 0, .aq 0, .aq 1] (λv => v = .tuple #[.agg #[.int .i64 0, .float .f64 0, .string ⟨#[]⟩, .int .i64 0], .int .i64 112]) := by
        exact Eq.mpr (show _ = (Same ⟨x.b4, 0, none⟩ x.b4 ∧ Same ⟨x.b4, 1, none⟩ x.b4 ∧ Same ⟨x.b4, 2, none⟩ x.b4 ∧ Same ⟨x.b4, 3, none⟩ x.b4 ∧ Same ⟨x.b5, 0, none⟩ x.b5 ∧ (tuple #[.agg #[.int .i64 0, .float .f64 0, .string ⟨#[]⟩, .int .i64 0], .int .i64 112] = .tuple #[.agg #[.int .i64 0, .float .f64 0, .string ⟨#[]⟩, .int .i64 0], .int .i64 112])) by kernel_rfl) ⟨⟨rfl, rfl⟩, ⟨rfl, rfl⟩, ⟨rfl, rfl⟩, ⟨rfl, rfl⟩, ⟨rfl, rfl⟩, rfl⟩
      obtain ⟨v, hrun, rfl⟩ := rd_sound hs3 _ _ _ hrd
      have hres : (results Tryz.f12 a'.tmps).run Tryz.prog w2 = .ok (.tuple #[.agg #[.int .i64 0, .float .f64 0, .string ⟨#[]⟩, .int .i64 0], .int .i64 112]) w2 := by
        rw [results_eq (over_rel g1 hq)]; exact hrun
      exact ⟨_, hres, hpan w2 J2 hy (Imm.le_trans g3 (Imm.le_trans hle hle2)) (hs3.pick [2] rfl rfl) (g5.trans he3)⟩
  | _ => exact g6.elim
theorem str_ok : fo_k 12 strC := ⟨λx F I w hc hr hs => by
  have hc : x.good := hc
  refine calls_of_wp_defers Tryz.func12 code12 ?_
  have hm : Tryz.prog.follows .mixedOrders = true := by kernel_rfl
  have hrel := rel_ent (N := 23) [.pointer (some ⟨x.h, 0, none⟩), .agg #[.int .i64 x.c0, .float .f64 x.f, .string x.s, .int .i64 0]] (Nat.le_of_ble_eq_true rfl)
  have hA := sta_body x F trivial trivial
  unfold BodyD at hA
  refine wp_cut hm (H := sta_H x F) (y := .region 1 #[] false) (V := (staCut x F 1).get rfl) (by kernel_rfl) rfl hA hrel rfl hs (λe a' w' hne haft => ?_) ?_
  · obtain ⟨T', S', J, g1, g2, g3, g4, g5, g6⟩ := haft
    cases e with
    | normal => exact absurd rfl hne
    | ret =>
      obtain ⟨v, hrun, ⟨⟨_, hbad, _, _⟩⟩⟩ := rd_sound g4 _ _ _ g6
      exact hbad.elim
    | panic ch =>
      obtain ⟨_, ⟨⟨_, hbad, _, _⟩⟩⟩ := g6
      exact hbad.elim
    | _ => exact g6.elim
  rintro ⟨b3, b4, b5⟩ js J a w1 - - hrel1 hd1 hle1 hs1 henv1
  refine wp_seq (wp_deferred hrel1 (b4 := b4) (b5 := b5) rfl rfl λT6 a6 hd6 hrel6 hT6 => ?_)
  have hb := stb_body ⟨x, b3, b4, b5⟩ F hc hr
  unfold BodyD at hb
  have hE := E_cut (V := (stbCut ⟨x, b3, b4, b5⟩ F 2).get rfl) (by kernel_rfl) rfl (show E _ _ _ (.seq .skip (cTl 2 stc)) _ _ _ _ from hb) () T6.at trivial
  refine E_sound hm _ _ hE (over_rel hrel6 ⟨(hT6 0 (by decide)).trans rfl, (hT6 3 (by decide)).trans rfl, (hT6 4 (by decide)).trans rfl, (hT6 5 (by decide)).trans rfl, fo_tv⟩) (hd6.trans (by rw [hd1])) (hs1.pick [0, 1, 2, 3] rfl rfl) (str_end ?_ ?_)
  · intro w' J' hq hle hs' henv
    refine ⟨⟨4, x.q, 0⟩, J', ?_, rfl, Imm.le_trans hle1 hle, hs', henv1.trans henv⟩
    show _ = strV x.q
    unfold strV
    rw [fo_dt hq] <;> rfl
  · intro w' J' hq hle hs' henv
    have hq : 16384 < x.q.size := hq
    refine ⟨⟨0, ⟨#[]⟩, 112⟩, J', ?_, rfl, Imm.le_trans hle1 hle, hs', henv1.trans henv⟩
    show _ = strV x.q
    unfold strV
    rw [fo_df (show ¬ x.q.size ≤ 16384 by omega)] <;> rfl⟩
end
section
open Go
section
variable {P : Program}
def shnV (u k : Nat) : Nat := u / 2 ^ k
def cvQ (k l : IntKind) (m : Nat) : QCon where
  X := Nat
  args x := [.int k x]
  cond _ := True
  val x := .int l (x % m : Nat)
theorem cv_u8 {o : Oper} {k : IntKind} {src dst : TypeId} {x : Operand} (ho : o.op = .convert src dst x) (hs : (P.underlying src).isSome = true) (hd : P.underlying dst = some (.int .u8)) : QOpOk P o (cvQ k .u8 256) := by
  refine ⟨λ(c : Nat) w ρ ha hc => ?_⟩
  simp only [ho, Op.operands, cvQ] at ha
  have ha2 : ρ x = .int k c := by simpa using ha
  have hk : P.intKind dst = .u8 := by simp [Program.intKind, hd]
  have hrun := run_convert_int (P := P) w src dst k c hs (by rw [hk]; exact hd)
  rw [hk] at hrun
  simp only [execOp, ho, ha2]
  show ((convert src dst (.int k c)) >>= λv => (pure (Next.value v) : Sem Next)).run P w = _
  rw [Sem.run_bind, hrun] <;> rfl
theorem cv_u32 {o : Oper} {k : IntKind} {src dst : TypeId} {x : Operand} (ho : o.op = .convert src dst x) (hs : (P.underlying src).isSome = true) (hd : P.underlying dst = some (.int .u32)) : QOpOk P o (cvQ k .u32 4294967296) := by
  refine ⟨λ(c : Nat) w ρ ha hc => ?_⟩
  simp only [ho, Op.operands, cvQ] at ha
  have ha2 : ρ x = .int k c := by simpa using ha
  have hk : P.intKind dst = .u32 := by simp [Program.intKind, hd]
  have hrun := run_convert_int (P := P) w src dst k c hs (by rw [hk]; exact hd)
  rw [hk] at hrun
  simp only [execOp, ho, ha2]
  show ((convert src dst (.int k c)) >>= λv => (pure (Next.value v) : Sem Next)).run P w = _
  rw [Sem.run_bind, hrun] <;> rfl
def shrN (k : Nat) : QCon where
  X := Nat
  args x := [.int .i32 x, .int .u64 k]
  cond _ := k < 32
  val x := .int .i32 (shnV x k : Nat)
theorem shrn_ok {k : Nat} {o : Oper} {t tn : TypeId} {x y : Operand} (ho : o.op = .binOp .shr t x y tn) : QOpOk P o (shrN k) := by
  refine ⟨λ(a : Nat) w ρ ha hc => ?_⟩
  have h := (shr_ok (P := P) (k := .i32) (kn := .u64) ho).h ((a : Int), (k : Int)) w ρ ha (Int.natCast_nonneg k)
  have hc : k < 32 := hc
  have e : ((a : Int).fdiv (2 ^ min ((k : Int).toNat) i32.bits)) = ((a / 2 ^ k : Nat) : Int) := by
    rw [fo_tn, show min k i32.bits = k from Nat.min_eq_left (Nat.le_of_lt hc), Int.fdiv_eq_ediv_of_nonneg _ (Int.pow_nonneg (by decide))]
    rw [Int.natCast_ediv, Int.natCast_pow] <;> rfl
  rw [h]
  show Result.ok (Next.value (.int .i32 ((a : Int).fdiv (2 ^ min ((k : Int).toNat) i32.bits)))) w = _
  rw [e] <;> rfl
def an6 : QCon where
  X := Nat
  args x := [.int .u8 x, .int .u8 63]
  cond x := x < 256
  val x := .int .u8 (x % 64 : Nat)
theorem an6_ok {o : Oper} {t rt : TypeId} {x y : Operand} (ho : o.op = .binOp .and t x y rt) : QOpOk P o an6 := by
  refine ⟨λ(a : Nat) w ρ ha hc => ?_⟩
  have hc : a < 256 := hc
  simp only [ho, Op.operands, an6] at ha
  have ha2 : ρ x = .int .u8 a ∧ ρ y = .int .u8 63 := by simpa using ha
  obtain ⟨hx, hy⟩ := ha2
  have e : ∀ a : Nat, a < 256 → u8.wrap (↑(BitVec.ofInt u8.bits (a : Int) &&& BitVec.ofInt u8.bits 63).toNat : Int) = ((a % 64 : Nat) : Int) := by decide +kernel
  have h : (execOp ρ o).run P w = .ok (.value (.int .u8 (u8.wrap (↑(BitVec.ofInt u8.bits (a : Int) &&& BitVec.ofInt u8.bits 63).toNat : Int)))) w := by simp [execOp, ho, hx, hy, eqGuard, binOp, Op.intBits, Sem.run]
  rw [h, e a hc] <;> rfl
def orH (m n : Nat) : QCon where
  X := Nat
  args x := [.int .u8 m, .int .u8 x]
  cond x := x < n
  val x := .int .u8 (m + x : Nat)
theorem orh_ok {m n : Nat} {o : Oper} {t rt : TypeId} {x y : Operand} (ho : o.op = .binOp .or t x y rt) (e : ∀ a : Nat, a < n → u8.wrap (↑(BitVec.ofInt u8.bits (m : Int) ||| BitVec.ofInt u8.bits (a : Int)).toNat : Int) = ((m + a : Nat) : Int)) : QOpOk P o (orH m n) := by
  refine ⟨λ(a : Nat) w ρ ha hc => ?_⟩
  have hc : a < n := hc
  simp only [ho, Op.operands, orH] at ha
  have ha2 : ρ x = .int .u8 m ∧ ρ y = .int .u8 a := by simpa using ha
  obtain ⟨hx, hy⟩ := ha2
  have h : (execOp ρ o).run P w = .ok (.value (.int .u8 (u8.wrap (↑(BitVec.ofInt u8.bits (m : Int) ||| BitVec.ofInt u8.bits (a : Int)).toNat : Int)))) w := by simp [execOp, ho, hx, hy, eqGuard, binOp, Op.intBits, Sem.run]
  rw [h, e a hc] <;> rfl
theorem or128 : ∀ a : Nat, a < 64 → u8.wrap (↑(BitVec.ofInt u8.bits ((128 : Nat) : Int) ||| BitVec.ofInt u8.bits (a : Int)).toNat : Int) = ((128 + a : Nat) : Int) := by decide +kernel
theorem or192 : ∀ a : Nat, a < 32 → u8.wrap (↑(BitVec.ofInt u8.bits ((192 : Nat) : Int) ||| BitVec.ofInt u8.bits (a : Int)).toNat : Int) = ((192 + a : Nat) : Int) := by decide +kernel
theorem or224 : ∀ a : Nat, a < 16 → u8.wrap (↑(BitVec.ofInt u8.bits ((224 : Nat) : Int) ||| BitVec.ofInt u8.bits (a : Int)).toNat : Int) = ((224 + a : Nat) : Int) := by decide +kernel
theorem or240 : ∀ a : Nat, a < 8 → u8.wrap (↑(BitVec.ofInt u8.bits ((240 : Nat) : Int) ||| BitVec.ofInt u8.bits (a : Int)).toNat : Int) = ((240 + a : Nat) : Int) := by decide +kernel
end
end
section
open Go
set_option maxHeartbeats 1000000
structure ArX where
  r : Row
  p : ByteArray
  c : Nat
abbrev arC : Con where
  X := ArX
  Y := Row
  args x := [.slice x.r.a x.r.n x.r.cap, .int .i32 x.c]
  pre x := [x.r.A]
  cond x := BRow 5 x.p x.r ∧ x.c ≤ 1114111 ∧ (x.c < 55296 ∨ 57344 ≤ x.c) ∧ x.r.n ≤ 140737488355000
  rdc _ _ := True
  rel x y := BRow 5 (x.p ++ Utf8.encode x.c) y
  val _ y := .returned (.slice y.a y.n y.cap)
  post _ y := [y.A]
abbrev arnC : Con where
  X := ArX
  Y := Row
  args x := [.slice x.r.a x.r.n x.r.cap, .int .i32 x.c]
  pre x := [x.r.A]
  cond x := BRow 5 x.p x.r ∧ x.c ≤ 1114111 ∧ (x.c < 55296 ∨ 57344 ≤ x.c) ∧ x.r.n ≤ 140737488355000 ∧ 128 ≤ x.c
  rdc _ _ := True
  rel x y := BRow 5 (x.p ++ Utf8.encode x.c) y
  val _ y := .returned (.slice y.a y.n y.cap)
  post _ y := [y.A]
def cv8 : QCon := cvQ .i32 .u8 256
def cv32 : QCon := cvQ .i32 .u32 4294967296
theorem enc_val {c : Nat} (h : c ≤ 1114111) (h2 : c < 55296 ∨ 57344 ≤ c) : Utf8.valid (c : Int) = true := by
  unfold Utf8.valid
  rcases h2 with h2 | h2
  · rw [Bool.or_eq_true]; left; rw [fo_bae, decide_eq_true_eq, decide_eq_true_eq]; omega
  · rw [Bool.or_eq_true]; right; rw [fo_bae, decide_eq_true_eq, decide_eq_true_eq]; omega
theorem u8n (n : Nat) : (UInt8.ofNat n).toNat = n % 256 := by simp [UInt8.toNat_ofNat']
theorem enc1 {c : Nat} (h : c < 128) : Lib.strCells (Utf8.encode (c : Int)) = [.int .u8 (c % 256 : Nat)] := by
  have e : Utf8.encode (c : Int) = ⟨#[UInt8.ofNat c]⟩ := by
    unfold Utf8.encode
    rw [enc_val (by omega) (by omega), if_pos rfl, fo_tn]
    dsimp only
    rw [if_pos (by omega)]
  rw [e]
  show [int .u8 ((UInt8.ofNat c).toNat : Int)] = _
  rw [u8n]
theorem enc2 {c : Nat} (h : 128 ≤ c) (h2 : c ≤ 2047) : Lib.strCells (Utf8.encode (c : Int)) = [.int .u8 ((192 + shnV c 6 % 256 : Nat)), .int .u8 ((128 + c % 256 % 64 : Nat))] := by
  have e : Utf8.encode (c : Int) = ⟨#[UInt8.ofNat (0xC0 + c / 64), UInt8.ofNat (0x80 + c % 64)]⟩ := by
    unfold Utf8.encode
    rw [enc_val (by omega) (by omega), if_pos rfl, fo_tn]
    dsimp only
    rw [if_neg (by omega), if_pos (by omega)]
  rw [e]
  show [int .u8 ((UInt8.ofNat (0xC0 + c / 64)).toNat : Int), int .u8 ((UInt8.ofNat (0x80 + c % 64)).toNat : Int)] = _
  rw [u8n, u8n, show (0xC0 + c / 64) % 256 = 192 + shnV c 6 % 256 by show _ = 192 + c / 64 % 256; omega, show (0x80 + c % 64) % 256 = 128 + c % 256 % 64 by omega]
theorem enc3 {c : Nat} (h : 2048 ≤ c) (h2 : c ≤ 65535) (h3 : c < 55296 ∨ 57344 ≤ c) : Lib.strCells (Utf8.encode (c : Int)) = [.int .u8 ((224 + shnV c 12 % 256 : Nat)), .int .u8 ((128 + shnV c 6 % 256 % 64 : Nat)), .int .u8 ((128 + c % 256 % 64 : Nat))] := by
  have e : Utf8.encode (c : Int) = ⟨#[UInt8.ofNat (0xE0 + c / 4096), UInt8.ofNat (0x80 + c / 64 % 64), UInt8.ofNat (0x80 + c % 64)]⟩ := by
    unfold Utf8.encode
    rw [enc_val (by omega) h3, if_pos rfl, fo_tn]
    dsimp only
    rw [if_neg (by omega), if_neg (by omega), if_pos (by omega)]
  rw [e]
  show [int .u8 ((UInt8.ofNat (0xE0 + c / 4096)).toNat : Int), int .u8 ((UInt8.ofNat (0x80 + c / 64 % 64)).toNat : Int), int .u8 ((UInt8.ofNat (0x80 + c % 64)).toNat : Int)] = _
  rw [u8n, u8n, u8n, show (0xE0 + c / 4096) % 256 = 224 + shnV c 12 % 256 by show _ = 224 + c / 4096 % 256; omega, show (0x80 + c / 64 % 64) % 256 = 128 + shnV c 6 % 256 % 64 by show _ = 128 + c / 64 % 256 % 64; omega, show (0x80 + c % 64) % 256 = 128 + c % 256 % 64 by omega]
theorem enc4 {c : Nat} (h : 65536 ≤ c) (h2 : c ≤ 1114111) : Lib.strCells (Utf8.encode (c : Int)) = [.int .u8 ((240 + shnV c 18 % 256 : Nat)), .int .u8 ((128 + shnV c 12 % 256 % 64 : Nat)), .int .u8 ((128 + shnV c 6 % 256 % 64 : Nat)), .int .u8 ((128 + c % 256 % 64 : Nat))] := by
  have e : Utf8.encode (c : Int) = ⟨#[UInt8.ofNat (0xF0 + c / 262144), UInt8.ofNat (0x80 + c / 4096 % 64), UInt8.ofNat (0x80 + c / 64 % 64), UInt8.ofNat (0x80 + c % 64)]⟩ := by
    unfold Utf8.encode
    rw [enc_val h2 (by omega), if_pos rfl, fo_tn]
    dsimp only
    rw [if_neg (by omega), if_neg (by omega), if_neg (by omega)]
  rw [e]
  show [int .u8 ((UInt8.ofNat (0xF0 + c / 262144)).toNat : Int), int .u8 ((UInt8.ofNat (0x80 + c / 4096 % 64)).toNat : Int), int .u8 ((UInt8.ofNat (0x80 + c / 64 % 64)).toNat : Int), int .u8 ((UInt8.ofNat (0x80 + c % 64)).toNat : Int)] = _
  rw [u8n, u8n, u8n, u8n, show (0xF0 + c / 262144) % 256 = 240 + shnV c 18 % 256 by show _ = 240 + c / 262144 % 256; omega, show (0x80 + c / 4096 % 64) % 256 = 128 + shnV c 12 % 256 % 64 by show _ = 128 + c / 4096 % 256 % 64; omega, show (0x80 + c / 64 % 64) % 256 = 128 + shnV c 6 % 256 % 64 by show _ = 128 + c / 64 % 256 % 64; omega, show (0x80 + c % 64) % 256 = 128 + c % 256 % 64 by omega]
theorem ar_brow {p s : ByteArray} {cs : List Value} {r : Row} (h : IsRow 5 1 (Lib.strCells p ++ cs) r) (hs : Lib.strCells s = cs) (hn : 0 < r.n) : BRow 5 (p ++ s) r := by
  refine ⟨by rw [strCells_app, hs]; exact h, .inr ?_⟩
  have := h.le
  omega
def T71 (oo : Oper) (aa : List Value) (k0 : Nat → Prop) := QOpOk Tryz.prog oo cv32 ∧ ∃ (z : Nat), aa = [fo_vj ↑z] ∧ True ∧ k0 z
def T72 (oo : Oper) (aa : List Value) (k0 : Nat → Prop) := QOpOk Tryz.prog oo (shrN 6) ∧ ∃ (z : Nat), aa = [fo_vj ↑z, fo_vu (↑(6 : Nat) : Int)] ∧ 6 < 32 ∧ k0 z
def T73 (oo : Oper) (aa : List Value) (k0 : Nat → Prop) := QOpOk Tryz.prog oo cv8 ∧ ∃ (z : Nat), aa = [fo_vj ↑z] ∧ True ∧ k0 z
def T74 (oo : Oper) (aa : List Value) (k0 : Nat → Prop) := QOpOk Tryz.prog oo an6 ∧ ∃ (z : Nat), aa = [fo_vc ↑z, fo_vc 63] ∧ z < 256 ∧ k0 z
abbrev q184 (i : Nat) : List Value := [fo_vc (↑(i % 256) : Int), fo_vc 63]
def T75 (oo : Oper) (aa : List Value) (k0 : Nat → Prop) := QOpOk Tryz.prog oo (orH 128 64) ∧ ∃ (z : Nat), aa = [fo_vc (↑(128 : Nat) : Int), fo_vc ↑z] ∧ z < 64 ∧ k0 z
abbrev q185 (h : Nat) : List Value := [fo_vc 128, fo_vc (↑(h % 64) : Int)]
def T76 (oo : Oper) (aa : List Value) (k0 : Nat → Prop) := QOpOk Tryz.prog oo (shrN 12) ∧ ∃ (z : Nat), aa = [fo_vj ↑z, fo_vu (↑(12 : Nat) : Int)] ∧ 12 < 32 ∧ k0 z
def T77 (oo : Oper) (aa : List Value) (k0 : Nat → Prop) := QOpOk Tryz.prog oo (orH 224 16) ∧ ∃ (z : Nat), aa = [fo_vc (↑(224 : Nat) : Int), fo_vc ↑z] ∧ z < 16 ∧ k0 z
def q20 (x : ArX) (F : Atom) := T76 (opIn Tryz.f135 7 2) [fo_vj ↑x.c, fo_vu 12] (λm => T73 (opIn Tryz.f135 7 3) [fo_vj (↑(shnV m 12) : Int)] (λl => T77 (opIn Tryz.f135 7 4) [fo_vc 224, fo_vc (↑(l % 256) : Int)] (λk => T72 (opIn Tryz.f135 7 6) [fo_vj ↑x.c, fo_vu 6] (λj => T73 (opIn Tryz.f135 7 7) [fo_vj (↑(shnV j 6) : Int)] (λi => T74 (opIn Tryz.f135 7 8) (q184 i) (λh => T75 (opIn Tryz.f135 7 9) (q185 h) (λg => T73 (opIn Tryz.f135 7 11) [fo_vj ↑x.c] (λf => T74 (opIn Tryz.f135 7 12) (q184 f) (λe => T75 (opIn Tryz.f135 7 13) (q185 e) (λd => ∀(c : Nat), T0 (opIn Tryz.f135 7 15) [fo_vl x.r.a x.r.n x.r.cap, fo_vl (q17 c) 3 3] [x.r.A] (fo_aR [(0, x.r.A), (1, F), (500, fo_cl c [fo_vc (↑(224 + k) : Int), fo_vc (↑(128 + g) : Int), fo_vc (↑(128 + d) : Int)] 5)] [0]) (λb a => Done arnC x F (q137 a) [(0, a.A), (1, F), (500, fo_cl c [fo_vc (↑(224 + k) : Int), fo_vc (↑(128 + g) : Int), fo_vc (↑(128 + d) : Int)] 5)])))))))))))
def T78 (oo : Oper) (aa : List Value) (k0 : Nat → Prop) := QOpOk Tryz.prog oo (shrN 18) ∧ ∃ (z : Nat), aa = [fo_vj ↑z, fo_vu (↑(18 : Nat) : Int)] ∧ 18 < 32 ∧ k0 z
def T79 (oo : Oper) (aa : List Value) (k0 : Nat → Prop) := QOpOk Tryz.prog oo (orH 240 8) ∧ ∃ (z : Nat), aa = [fo_vc (↑(240 : Nat) : Int), fo_vc ↑z] ∧ z < 8 ∧ k0 z
abbrev q334 (o k g d : Nat) : List Value := [fo_vc (↑(240 + o) : Int), fo_vc (↑(128 + k) : Int), fo_vc (↑(128 + g) : Int), fo_vc (↑(128 + d) : Int)]
def q85 (x : ArX) (F : Atom) := ∀(c : Nat), T0 (opIn Tryz.f135 2 2) [fo_vl x.r.a x.r.n x.r.cap, fo_vl (q17 c) 3 3] [x.r.A] (fo_aR [(0, x.r.A), (1, F), (500, fo_cl c [fo_vc 239, fo_vc 191, fo_vc 189] 5)] [0]) (λb a => Done arnC x F (q137 a) [(0, a.A), (1, F), (500, fo_cl c [fo_vc 239, fo_vc 191, fo_vc 189] 5)])
def q1 (r : Nat) (x : ArX) (F : Atom) := fo_Bd ((↑(r % 4294967296) : Int) > 65535) (fo_Bd ((↑(r % 4294967296) : Int) ≤ 1114111) (T78 (opIn Tryz.f135 9 2) [fo_vj ↑x.c, fo_vu 18] (λq => T73 (opIn Tryz.f135 9 3) [fo_vj (↑(shnV q 18) : Int)] (λp => T79 (opIn Tryz.f135 9 4) [fo_vc 240, fo_vc (↑(p % 256) : Int)] (λo => T76 (opIn Tryz.f135 9 6) [fo_vj ↑x.c, fo_vu 12] (λn => T73 (opIn Tryz.f135 9 7) [fo_vj (↑(shnV n 12) : Int)] (λm => T74 (opIn Tryz.f135 9 8) (q184 m) (λl => T75 (opIn Tryz.f135 9 9) (q185 l) (λk => T72 (opIn Tryz.f135 9 11) [fo_vj ↑x.c, fo_vu 6] (λj => T73 (opIn Tryz.f135 9 12) [fo_vj (↑(shnV j 6) : Int)] (λi => T74 (opIn Tryz.f135 9 13) (q184 i) (λh => T75 (opIn Tryz.f135 9 14) (q185 h) (λg => T73 (opIn Tryz.f135 9 16) [fo_vj ↑x.c] (λf => T74 (opIn Tryz.f135 9 17) (q184 f) (λe => T75 (opIn Tryz.f135 9 18) (q185 e) (λd => ∀(c : Nat), T0 (opIn Tryz.f135 9 20) [fo_vl x.r.a x.r.n x.r.cap, fo_vl (q17 c) 4 4] [x.r.A] (fo_aR [(0, x.r.A), (1, F), (500, fo_cl c (q334 o k g d) 5)] [0]) (λb a => Done arnC x F (q137 a) [(0, a.A), (1, F), (500, fo_cl c (q334 o k g d) 5)])))))))))))))))) (q85 x F)) (q85 x F)
theorem arn_vc (x : ArX) (F : Atom) (hc : arnC.cond x) (hr : arnC.rdc x F) :
 T71 (opIn Tryz.f135 1 1) [fo_vj ↑x.c] (λr => fo_Bd ((↑(r % 4294967296) : Int) ≤ 2047) (T72 (opIn Tryz.f135 4 2) [fo_vj ↑x.c, fo_vu 6] (λi => T73 (opIn Tryz.f135 4 3) [fo_vj (↑(shnV i 6) : Int)] (λh => QOpOk Tryz.prog (opIn Tryz.f135 4 4) (orH 192 32) ∧ ∃(g : Nat), [fo_vc 192, fo_vc (↑(h % 256) : Int)] = [fo_vc (↑(192 : Nat) : Int), fo_vc ↑g] ∧ g < 32 ∧ T73 (opIn Tryz.f135 4 6) [fo_vj ↑x.c] (λf => T74 (opIn Tryz.f135 4 7) (q184 f) (λe => T75 (opIn Tryz.f135 4 8) (q185 e) (λd => ∀(c : Nat), T0 (opIn Tryz.f135 4 10) [fo_vl x.r.a x.r.n x.r.cap, fo_vl (q17 c) 2 2] [x.r.A] (fo_aR [(0, x.r.A), (1, F), (500, fo_cl c [fo_vc (↑(192 + g) : Int), fo_vc (↑(128 + d) : Int)] 5)] [0]) (λb a => Done arnC x F (q137 a) [(0, a.A), (1, F), (500, fo_cl c [fo_vc (↑(192 + g) : Int), fo_vc (↑(128 + d) : Int)] 5)]))))))) (fo_Bd ((↑(r % 4294967296) : Int) < 55296) (fo_Bd ((↑(r % 4294967296) : Int) < 55296) (q20 x F) (q1 r x F)) (fo_Bd (57343 < (↑(r % 4294967296) : Int)) (fo_Bd ((↑(r % 4294967296) : Int) ≤ 65535) (q20 x F) (q1 r x F)) (q1 r x F)))) := by
  delta T71 T72 T73 T74 q184 T75 q185 q293 q261 q135 q149 T0 q17 q137 T76 T77 q20 T78 T79 q334 q85 q1 fo_aR fo_O4 fo_vc fo_vu fo_vj fo_vl fo_cl fo_Bd fo_rt
  obtain ⟨r, p, c⟩ := x
  obtain ⟨hrow, hc1, hsur, hn, h128⟩ := hc
  dsimp only at hrow hc1 hsur hn h128 ⊢
  have tail : ∀ (o : Oper) (_ : OpOk Tryz.prog o (apC 5 1 1)) (b m : Nat) (cs : List Value), Lib.strCells (Utf8.encode (c : Int)) = cs → cs.length = m → m ≤ 4 → 0 < m → (∀ u ∈ cs, u.oneCell' = true) → OpOk Tryz.prog o (apC 5 1 1) ∧ true = true ∧ ∃ z : ApX, [slice r.a r.n r.cap, .slice (some ⟨b, 0, none⟩) m m] = [.slice z.r.a z.r.n z.r.cap, .slice z.a z.m z.c] ∧ [r.A] = [z.r.A] ∧ (apC 5 1 1).cond z ∧ (apC 5 1 1).rdc z (.pred (rest [(0, r.A), (1, F), (500, .cells b cs 5)] [0])) ∧ ∀ y : Row, (apC 5 1 1).rel z y → Done arnC ⟨r, p, c⟩ F (.returned (.slice y.a y.n y.cap)) [(0, y.A), (1, F), (500, .cells b cs 5)] := by
    intro o ho b m cs h1 h2 h3 h4 h5
    refine ⟨ho, rfl, ⟨r, Lib.strCells p, some ⟨b, 0, none⟩, m, m, cs⟩, rfl, rfl, ⟨hrow.1, by dsimp only; omega, h5, by dsimp only; omega, by dsimp only; omega, λe => nomatch e⟩, ?_, λy hy => ⟨y, ar_brow hy.1 h1 (by have := hy.2.1; dsimp only at this; omega), rfl, Ent.pick [0, 1] rfl rfl⟩⟩
    intro a ha
    cases ha
    exact Seg.rest (j := 500) (by simp) (Seg.cells (λj u hj => by rw [fo_za]; exact hj))
  refine ⟨cv_u32 rfl rfl rfl, c, rfl, fo_tv, ?_⟩
  rw [Nat.mod_eq_of_lt (show c < 4294967296 by omega)]
  refine br_decide (λh1 => ?_) (λh1 => ?_)
  · exact ⟨shrn_ok rfl, c, rfl, by decide, cv_u8 rfl rfl rfl, shnV c 6, rfl, fo_tv, orh_ok rfl or192, _, rfl, (show c / 64 % 256 < 32 by omega), cv_u8 rfl rfl rfl, c, rfl, fo_tv, an6_ok rfl, _, rfl, Nat.mod_lt _ (by decide), orh_ok rfl or128, _, rfl, Nat.mod_lt _ (by decide), λb => tail _ (append_ok (P := Tryz.prog) 1 1 rfl rfl rfl rfl rfl rfl rfl (by decide)) b 2 _ (enc2 h128 (by omega)) rfl (by decide) (by decide) (by intro u hu; simp only [List.mem_cons, List.not_mem_nil, or_false] at hu; rcases hu with rfl | rfl <;> rfl)⟩
  generalize h2 : decide ((c : Int) < 55296) = d2
  cases d2 with
  | true =>
    have h2 := fo_od1 h2
    rw [br_true, br_true]
    exact ⟨shrn_ok rfl, c, rfl, by decide, cv_u8 rfl rfl rfl, shnV c 12, rfl, fo_tv, orh_ok rfl or224, _, rfl, (show c / 4096 % 256 < 16 by omega), shrn_ok rfl, c, rfl, by decide, cv_u8 rfl rfl rfl, shnV c 6, rfl, fo_tv, an6_ok rfl, _, rfl, Nat.mod_lt _ (by decide), orh_ok rfl or128, _, rfl, Nat.mod_lt _ (by decide), cv_u8 rfl rfl rfl, c, rfl, fo_tv, an6_ok rfl, _, rfl, Nat.mod_lt _ (by decide), orh_ok rfl or128, _, rfl, Nat.mod_lt _ (by decide), λb => tail _ (append_ok (P := Tryz.prog) 1 1 rfl rfl rfl rfl rfl rfl rfl (by decide)) b 3 _ (enc3 (by omega) (by omega) hsur) rfl (by decide) (by decide) (by intro u hu; simp only [List.mem_cons, List.not_mem_nil, or_false] at hu; rcases hu with rfl | rfl | rfl <;> rfl)⟩
  | false =>
  have h2 := fo_od0 h2
  rw [br_false]
  refine br_intro (λh3 => ?_) (λh3 => ?_)
  · have h3 := fo_od1 h3
    refine br_intro (λh4 => ?_) (λh4 => ?_)
    · have h4 := fo_od1 h4
      exact ⟨shrn_ok rfl, c, rfl, by decide, cv_u8 rfl rfl rfl, shnV c 12, rfl, fo_tv, orh_ok rfl or224, _, rfl, (show c / 4096 % 256 < 16 by omega), shrn_ok rfl, c, rfl, by decide, cv_u8 rfl rfl rfl, shnV c 6, rfl, fo_tv, an6_ok rfl, _, rfl, Nat.mod_lt _ (by decide), orh_ok rfl or128, _, rfl, Nat.mod_lt _ (by decide), cv_u8 rfl rfl rfl, c, rfl, fo_tv, an6_ok rfl, _, rfl, Nat.mod_lt _ (by decide), orh_ok rfl or128, _, rfl, Nat.mod_lt _ (by decide), λb => tail _ (append_ok (P := Tryz.prog) 1 1 rfl rfl rfl rfl rfl rfl rfl (by decide)) b 3 _ (enc3 (by omega) (by omega) hsur) rfl (by decide) (by decide) (by intro u hu; simp only [List.mem_cons, List.not_mem_nil, or_false] at hu; rcases hu with rfl | rfl | rfl <;> rfl)⟩
    have h4 := fo_od0 h4
    refine br_intro (λh5 => ?_) (λh5 => ?_)
    · refine br_intro (λh6 => ?_) (λh6 => ?_)
      · exact ⟨shrn_ok rfl, c, rfl, by decide, cv_u8 rfl rfl rfl, shnV c 18, rfl, fo_tv, orh_ok rfl or240, _, rfl, (show c / 262144 % 256 < 8 by omega), shrn_ok rfl, c, rfl, by decide, cv_u8 rfl rfl rfl, shnV c 12, rfl, fo_tv, an6_ok rfl, _, rfl, Nat.mod_lt _ (by decide), orh_ok rfl or128, _, rfl, Nat.mod_lt _ (by decide), shrn_ok rfl, c, rfl, by decide, cv_u8 rfl rfl rfl, shnV c 6, rfl, fo_tv, an6_ok rfl, _, rfl, Nat.mod_lt _ (by decide), orh_ok rfl or128, _, rfl, Nat.mod_lt _ (by decide), cv_u8 rfl rfl rfl, c, rfl, fo_tv, an6_ok rfl, _, rfl, Nat.mod_lt _ (by decide), orh_ok rfl or128, _, rfl, Nat.mod_lt _ (by decide), λb => tail _ (append_ok (P := Tryz.prog) 1 1 rfl rfl rfl rfl rfl rfl rfl (by decide)) b 4 _ (enc4 (by omega) (by omega)) rfl (by decide) (by decide) (by intro u hu; simp only [List.mem_cons, List.not_mem_nil, or_false] at hu; rcases hu with rfl | rfl | rfl | rfl <;> rfl)⟩
      · have h6 := fo_od0 h6
        exact absurd hc1 (by omega)
    · have h5 := fo_od0 h5
      exact absurd hc1 (by omega)
  · have h3 := fo_od0 h3
    exact absurd hc1 (by omega)
theorem arn_ok : fo_k 135 arnC := fo 78 Tryz.func135 (λ_ _ => [(1, 1, .qo cv32), (2, 1, .n 500), (2, 2, .o (apC 5 1 1) [0] [0]), (4, 2, .qo (shrN 6)), (4, 3, .qo cv8), (4, 4, .qo (orH 192 32)), (4, 6, .qo cv8), (4, 7, .qo an6), (4, 8, .qo (orH 128 64)), (4, 9, .n 500), (4, 10, .o (apC 5 1 1) [0] [0]), (7, 2, .qo (shrN 12)), (7, 3, .qo cv8), (7, 4, .qo (orH 224 16)), (7, 6, .qo (shrN 6)), (7, 7, .qo cv8), (7, 8, .qo an6), (7, 9, .qo (orH 128 64)), (7, 11, .qo cv8), (7, 12, .qo an6), (7, 13, .qo (orH 128 64)), (7, 14, .n 500), (7, 15, .o (apC 5 1 1) [0] [0]), (9, 2, .qo (shrN 18)), (9, 3, .qo cv8), (9, 4, .qo (orH 240 8)), (9, 6, .qo (shrN 12)), (9, 7, .qo cv8), (9, 8, .qo an6), (9, 9, .qo (orH 128 64)), (9, 11, .qo (shrN 6)), (9, 12, .qo cv8), (9, 13, .qo an6), (9, 14, .qo (orH 128 64)), (9, 16, .qo cv8), (9, 17, .qo an6), (9, 18, .qo (orH 128 64)), (9, 19, .n 500), (9, 20, .o (apC 5 1 1) [0] [0])]) [] fo_i fo_i fo_o [] arn_vc
theorem ar_vc (x : ArX) (F : Atom) (hc : arC.cond x) (hr : arC.rdc x F) :
 T71 (opIn Tryz.f87 1 1) [fo_vj ↑x.c] (λe => fo_Bd ((↑(e % 4294967296) : Int) ≤ 127) (T73 (opIn Tryz.f87 2 2) [fo_vj ↑x.c] (λd => ∀(c : Nat), T0 (opIn Tryz.f87 2 4) [fo_vl x.r.a x.r.n x.r.cap, fo_vl (q17 c) 1 1] [x.r.A] (fo_aR [(0, x.r.A), (1, F), (500, fo_cl c [fo_vc (↑(d % 256) : Int)] 5)] [0]) (λb a => Done arC x F (q137 a) [(0, a.A), (1, F), (500, fo_cl c [fo_vc (↑(d % 256) : Int)] 5)]))) (fo_C6 135 arnC (λb => BRow 5 b.p b.r ∧ b.c ≤ 1114111 ∧ (b.c < 55296 ∨ 57344 ≤ b.c) ∧ b.r.n ≤ 140737488355000 ∧ 128 ≤ b.c) (λb a => BRow 5 (b.p ++ Utf8.encode (b.c : Int)) a) [fo_vl x.r.a x.r.n x.r.cap, fo_vj ↑x.c] [x.r.A] (λb a => Done arC x F (q137 a) [(0, a.A), (1, F)]))) := by
  delta T71 T73 q293 q261 q135 q149 T0 q17 q137 fo_aR fo_C6 fo_O4 fo_vc fo_vj fo_vl fo_cl fo_Bd fo_rt
  obtain ⟨r, p, c⟩ := x
  obtain ⟨hrow, hc1, hsur, hn⟩ := hc
  dsimp only at hrow hc1 hsur hn ⊢
  have tail : ∀ (o : Oper) (_ : OpOk Tryz.prog o (apC 5 1 1)) (b m : Nat) (cs : List Value), Lib.strCells (Utf8.encode (c : Int)) = cs → cs.length = m → m ≤ 4 → 0 < m → (∀ u ∈ cs, u.oneCell' = true) → OpOk Tryz.prog o (apC 5 1 1) ∧ true = true ∧ ∃ z : ApX, [slice r.a r.n r.cap, .slice (some ⟨b, 0, none⟩) m m] = [.slice z.r.a z.r.n z.r.cap, .slice z.a z.m z.c] ∧ [r.A] = [z.r.A] ∧ (apC 5 1 1).cond z ∧ (apC 5 1 1).rdc z (.pred (rest [(0, r.A), (1, F), (500, .cells b cs 5)] [0])) ∧ ∀ y : Row, (apC 5 1 1).rel z y → Done arC ⟨r, p, c⟩ F (.returned (.slice y.a y.n y.cap)) [(0, y.A), (1, F), (500, .cells b cs 5)] := by
    intro o ho b m cs h1 h2 h3 h4 h5
    refine ⟨ho, rfl, ⟨r, Lib.strCells p, some ⟨b, 0, none⟩, m, m, cs⟩, rfl, rfl, ⟨hrow.1, by dsimp only; omega, h5, by dsimp only; omega, by dsimp only; omega, λe => nomatch e⟩, ?_, λy hy => ⟨y, ar_brow hy.1 h1 (by have := hy.2.1; dsimp only at this; omega), rfl, Ent.pick [0, 1] rfl rfl⟩⟩
    intro a ha
    cases ha
    exact Seg.rest (j := 500) (by simp) (Seg.cells (λj u hj => by rw [fo_za]; exact hj))
  refine ⟨cv_u32 rfl rfl rfl, c, rfl, fo_tv, ?_⟩
  rw [Nat.mod_eq_of_lt (show c < 4294967296 by omega)]
  refine br_decide (λh1 => ⟨cv_u8 rfl rfl rfl, c, rfl, fo_tv, λb => tail _ (append_ok (P := Tryz.prog) 1 1 rfl rfl rfl rfl rfl rfl rfl (by decide)) b 1 _ (enc1 (by omega)) rfl (by decide) (by decide) (by intro u hu; simp only [List.mem_cons, List.not_mem_nil, or_false] at hu; rcases hu with rfl <;> rfl)⟩) (λh1 => ⟨arn_ok, rfl, ⟨r, p, c⟩, rfl, rfl, ⟨hrow, hc1, hsur, hn, by dsimp only; omega⟩, fo_tv, λy hy => ⟨y, hy, rfl, Ent.pick [0, 1] rfl rfl⟩⟩)
theorem ar_ok : fo_k 87 arC := fo 16 Tryz.func87 (λ_ _ => [(1, 1, .qo cv32), (2, 2, .qo cv8), (2, 3, .n 500), (2, 4, .o (apC 5 1 1) [0] [0]), (3, 2, .c arnC [0] [0])]) [] fo_i fo_i fo_o [] ar_vc
end
section
open Go
set_option maxHeartbeats 1000000
def shlT : QCon where
  X := Int
  args x := [.int .i64 x, .int .u64 10]
  cond x := 0 ≤ x ∧ x < 1024
  val x := .int .i64 (x * 1024)
theorem shlt_ok {P : Program} {o : Oper} {t tn : TypeId} {x y : Operand} (ho : o.op = .binOp .shl t x y tn) : QOpOk P o shlT := by
  refine ⟨λ(a : Int) w ρ ha hc => ?_⟩
  have hc : 0 ≤ a ∧ a < 1024 := hc
  have h := (shl_ok (P := P) (k := .i64) (kn := .u64) ho).h (a, (10 : Int)) w ρ ha (show (0 : Int) ≤ 10 by decide)
  rw [h]
  have e : i64.wrap (a * 2 ^ min (Int.toNat 10) i64.bits) = a * 1024 := by
    rw [show (2 : Int) ^ min (Int.toNat 10) i64.bits = 1024 from by decide]
    exact wrap_in (by simp only [inR]; omega)
  show Result.ok (Next.value (.int .i64 (i64.wrap (a * 2 ^ min (Int.toNat 10) i64.bits)))) w = _
  rw [e] <;> rfl
def cvI : QCon where
  X := Nat
  args x := [.int .i64 x]
  cond x := x < 2147483648
  val x := .int .i32 x
theorem cvi_ok {P : Program} {o : Oper} {src dst : TypeId} {x : Operand} (ho : o.op = .convert src dst x) (hs : (P.underlying src).isSome = true) (hd : P.underlying dst = some (.int .i32)) : QOpOk P o cvI := by
  refine ⟨λ(c : Nat) w ρ ha hc => ?_⟩
  have hc : c < 2147483648 := hc
  simp only [ho, Op.operands, cvI] at ha
  have ha2 : ρ x = .int .i64 c := by simpa using ha
  have hk : P.intKind dst = .i32 := by simp [Program.intKind, hd]
  have hrun := run_convert_int (P := P) w src dst .i64 c hs (by rw [hk]; exact hd)
  rw [hk, wrap_in (show inR .i32 (c : Int) by simp only [inR]; omega)] at hrun
  simp only [execOp, ho, ha2]
  show ((convert src dst (.int .i64 c)) >>= λv => (pure (Next.value v) : Sem Next)).run P w = _
  rw [Sem.run_bind, hrun] <;> rfl
theorem nrC_ok (w : ByteArray) (i : Nat) (h : i < w.size / 2) : (nrC w i).1 ≤ 1114111 ∧ ((nrC w i).1 < 55296 ∨ 57344 ≤ (nrC w i).1) ∧ (1 ≤ (nrC w i).2 ∧ i + (nrC w i).2 ≤ w.size / 2) := by
  have u1 := unitN_lt w i
  have u2 := unitN_lt w (i + 1)
  have hC : nrC w i = bif decide (55296 ≤ unitN w i) && decide (unitN w i < 57344) then (bif decide (unitN w i < 56320) && (decide (i + 1 < w.size / 2) && (decide (56320 ≤ unitN w (i + 1)) && decide (unitN w (i + 1) < 57344))) then (65536 + (unitN w i - 55296) * 1024 + (unitN w (i + 1) - 56320), 2) else (65533, 1)) else (unitN w i, 1) := rfl
  rw [hC]
  cases hA : (decide (55296 ≤ unitN w i) && decide (unitN w i < 57344)) with
  | false =>
    rw [fo_cf]
    refine ⟨by dsimp only; omega, ?_, by dsimp only; omega⟩
    rw [Bool.and_eq_false_iff, decide_eq_false_iff_not, decide_eq_false_iff_not] at hA
    dsimp only; omega
  | true =>
    rw [fo_ct]
    rw [fo_bae, decide_eq_true_eq, decide_eq_true_eq] at hA
    cases hB : (decide (unitN w i < 56320) && (decide (i + 1 < w.size / 2) && (decide (56320 ≤ unitN w (i + 1)) && decide (unitN w (i + 1) < 57344)))) with
    | false => rw [fo_cf]; dsimp only; omega
    | true =>
      rw [fo_ct]
      simp only [fo_bae, decide_eq_true_eq] at hB
      dsimp only; omega
theorem enc_size4 (c : Nat) : (Utf8.encode (c : Int)).size ≤ 4 := by
  unfold Utf8.encode
  dsimp only
  repeat' split
  all_goals exact Nat.le_of_ble_eq_true rfl
theorem row_bytes {o : ByteArray} {r : Row} (h : BRow 5 o r) : IsRow 5 1 (u8s (o.data.toList.map UInt8.toNat)) r := by
  have e : u8s (o.data.toList.map UInt8.toNat) = Lib.strCells o := by
    unfold u8s Lib.strCells
    rw [List.map_map] <;> rfl
  rw [e]; exact h.1
theorem btL_of (o : ByteArray) : btL (o.data.toList.map UInt8.toNat) = o := by
  refine ba_list ?_
  unfold btL
  rw [List.map_map]
  exact (List.map_congr_left (g := id) λa _ => UInt8.ofNat_toNat).trans (List.map_id _)
def nrE (w : ByteArray) : Int := bif w.size % 2 == 0 then 0 else 11
structure NrS where
  i : Nat
  f : Nat
  o : ByteArray
  r : Row
structure NrS.ok (d : NrS) (w : ByteArray) : Prop where
  hi : d.i ≤ w.size / 2
  hf : w.size / 2 < d.i + d.f
  he : nrF w (w.size / 2 + 1) 0 ⟨#[]⟩ = nrF w d.f d.i d.o
  hr : BRow 5 d.o d.r
  hz : d.o.size ≤ 4 * d.i
abbrev nrnC : Con where
  X := WdX
  Y := Unit
  args x := [.string x.s]
  pre _ := []
  cond x := x.s.size ≤ 1048576
  rdc _ _ := True
  rel _ _ := True
  val x _ := .returned (.tuple #[.string (nrV x.s), .int .i64 (nrE x.s)])
  post _ _ := []
def nrnInv (x : WdX) (F : Atom) : Nat → Option Inv := fun
  | 0 => some { X := NrS, P := λd => d.ok x.s ∧ x.s.size % 2 = 0, mu := λd => x.s.size / 2 - d.i, lv := λd => [(0, .string x.s), (4, .slice d.r.a d.r.n d.r.cap), (5, .int .i64 d.i)], st := λd => [F, d.r.A] }
  | _ => none
structure Nr2 where
  d : NrS
def nrnG : (T : Type) × (Nr2 → T) := ⟨NrS, λe => e.d⟩
def nrnCut (x : WdX) (F : Atom) : Nat → Option Inv := fun
  | 14 => some { X := Nr2, P := λe => (e.d.ok x.s ∧ x.s.size % 2 = 0) ∧ e.d.i < x.s.size / 2, mu := λ_ => 0, lv := λe => [(0, .string x.s), (4, .slice e.d.r.a e.d.r.n e.d.r.cap), (5, .int .i64 ((e.d.i + (nrC x.s e.d.i).2 - 1 : Nat))), (6, .int .i64 ((nrC x.s e.d.i).1 : Nat))], st := λe => [F, e.d.r.A], gh := some nrnG }
  | _ => none
def q319 (x : WdX) (F : Atom) := Done nrnC x F (fo_rt (tuple ⟨[fo_vs ⟨#[]⟩, fo_vi 11]⟩)) [(0, F)]
def T80 (e0 : WdX) (e1 : NrS) (e2 : Atom) (v0 v1 v2 : Value) (ss : St) := ∃ (z : Nr2), (((z.d.ok e0.s ∧ e0.s.size.mod 2 = 0) ∧ z.d.i < e0.s.size.div 2) ∧ nrnG.snd z = e1) ∧ (fo_vs e0.s = fo_vs e0.s ∧ v0 = fo_vl z.d.r.a z.d.r.n z.d.r.cap ∧ v1 = fo_vi (↑(z.d.i + (nrC e0.s z.d.i).snd - 1) : Int) ∧ v2 = fo_vi (↑(nrC e0.s z.d.i).fst : Int) ∧ True) ∧ Ent ss [(0, e2), (1, z.d.r.A)]
abbrev q317 (m : NrS) := fo_vl m.r.a m.r.n m.r.cap
def q132 (x : WdX) (g : NrS) (F : Atom) (m : NrS) := T80 x g F (q317 m) (fo_vi ↑m.i) (fo_vi 65533) [(0, F), (1, m.r.A)]
def T81 (oo : Oper) (aa : List Value) (k0 : Nat → Prop) := QOpOk Tryz.prog oo cvI ∧ ∃ (z : Nat), aa = [fo_vi ↑z] ∧ z < 2147483648 ∧ k0 z
theorem nrn_vc (x : WdX) (F : Atom) (hc : nrnC.cond x) (hr : nrnC.rdc x F) :
 (2 : Int) ≠ (0 : Int) ∧ Br ((x.s.size : Int).tmod (2 : Int) != (0 : Int)) (q319 x F) ((∃(a : NrS), (a.ok x.s ∧ x.s.size.mod 2 = 0) ∧ (fo_vs x.s = fo_vs x.s ∧ fo_vl none 0 0 = fo_vl a.r.a a.r.n a.r.cap ∧ fo_vi 0 = fo_vi ↑a.i ∧ True) ∧ Ent [(0, F)] [(0, F), (1, a.r.A)]) ∧ fo_vA λ(m : NrS) _ => (m.ok x.s ∧ x.s.size.mod 2 = 0) → T36 [fo_vs x.s] (λk j => fo_Bd ((m.i : Int) < (↑(k.a.size / 2) : Int)) (T37 [fo_vs x.s, fo_vi ↑m.i] (λi h => ∃(g : NrS), fo_Bd ((↑(unitN i.s i.i) : Int) ≥ 55296) (fo_Bd ((↑(unitN i.s i.i) : Int) < 57344) (fo_rI ((m.i : Int) + 1) ∧ T37 [fo_vs x.s, fo_vi ((m.i : Int) + 1)] (λd c => fo_Bd ((↑(unitN i.s i.i) : Int) < 56320) (fo_Bd (d.i < d.s.size / 2) (fo_Bd ((↑(unitN d.s d.i) : Int) ≥ 56320) (fo_Bd ((↑(unitN d.s d.i) : Int) < 57344) (fo_rI ((↑(unitN i.s i.i) : Int) - 55296) ∧ QOpOk Tryz.prog (opIn Tryz.f37 11 2) shlT ∧ ∃(b : Int), [fo_vi ((↑(unitN i.s i.i) : Int) - 55296), fo_vu 10] = [fo_vi b, fo_vu 10] ∧ (0 ≤ b ∧ b < 1024) ∧ fo_rI (65536 + b * 1024) ∧ fo_rI (65536 + b * 1024 + (↑(unitN d.s d.i) : Int)) ∧ fo_rI (65536 + b * 1024 + (↑(unitN d.s d.i) : Int) - 56320) ∧ fo_rI ((m.i : Int) + 1) ∧ T80 x g F (q317 m) (fo_vi ((m.i : Int) + 1)) (fo_vi (65536 + b * 1024 + (↑(unitN d.s d.i) : Int) - 56320)) [(0, F), (1, m.r.A)]) (q132 x g F m)) (q132 x g F m)) (q132 x g F m)) (q132 x g F m))) (T80 x g F (q317 m) (fo_vi ↑m.i) (q190 i) [(0, F), (1, m.r.A)])) (T80 x g F (q317 m) (fo_vi ↑m.i) (q190 i) [(0, F), (1, m.r.A)]) ∧ fo_vA λ(f : Nr2) _ => (((f.d.ok x.s ∧ x.s.size.mod 2 = 0) ∧ f.d.i < x.s.size.div 2) ∧ nrnG.snd f = g) → T81 (opIn Tryz.f37 14 2) [fo_vi (↑(nrC x.s f.d.i).fst : Int)] (λd => fo_C6 87 arC (λc => BRow 5 c.p c.r ∧ c.c ≤ 1114111 ∧ (c.c < 55296 ∨ 57344 ≤ c.c) ∧ c.r.n ≤ 140737488355000) (λc b => BRow 5 (c.p ++ Utf8.encode (c.c : Int)) b) [fo_vl f.d.r.a f.d.r.n f.d.r.cap, fo_vj ↑d] [f.d.r.A] (λc b => fo_rI ((↑(f.d.i + (nrC x.s f.d.i).snd - 1) : Int) + 1) ∧ ∃(a : NrS), (a.ok x.s ∧ x.s.size.mod 2 = 0) ∧ (fo_vs x.s = fo_vs x.s ∧ fo_vl b.a b.n b.cap = fo_vl a.r.a a.r.n a.r.cap ∧ fo_vi ((↑(f.d.i + (nrC x.s f.d.i).snd - 1) : Int) + 1) = fo_vi ↑a.i ∧ True) ∧ Ent [(0, F), (1, b.A)] [(0, F), (1, a.r.A)] ∧ x.s.size.div 2 - a.i < x.s.size.div 2 - m.i)))) (T4 (opIn Tryz.f37 15 1) [fo_vl m.r.a m.r.n m.r.cap] (fo_aR [(0, F), (1, m.r.A)] []) (λb a => Done nrnC x F (fo_rt (tuple ⟨[fo_vs (btL b.l), fo_vi 0]⟩)) [(0, F), (1, m.r.A)])))) := by
  delta q319 T36 T37 T80 q317 q132 q190 T81 T4 fo_aR fo_rI fo_C1 fo_C6 fo_O2 fo_vi fo_vu fo_vj fo_vs fo_vl fo_Bd fo_rt fo_vA
  obtain ⟨w⟩ := x
  have hc : w.size ≤ 1048576 := hc
  dsimp only
  have e : (w.size : Int).tmod 2 = ((w.size % 2 : Nat) : Int) := by
    rw [Int.tmod_eq_emod_of_nonneg (by omega)]; omega
  rw [e]
  refine ⟨by decide, br_intro (λh => ?_) (λh => ?_)⟩
  · have h : w.size % 2 ≠ 0 := by
      intro h0
      rw [h0] at h
      cases h
    have h2 : (w.size % 2 == 0) = false := by simpa using h
    refine ⟨(), fo_tv, ?_, Ent.pick [0] rfl rfl⟩
    show _ = returned (.tuple #[.string (nrV w), .int .i64 (nrE w)])
    unfold nrV nrE
    rw [h2] <;> rfl
  have hev : w.size % 2 = 0 := by
    have h : (((w.size % 2 : Nat) : Int) != 0) = false := h
    have h3 : (w.size : Int) % 2 = 0 := by simpa using h
    omega
  have h2 : (w.size % 2 == 0) = true := by simpa using hev
  refine ⟨⟨⟨0, w.size / 2 + 1, ⟨#[]⟩, nilRow⟩, ⟨⟨fo_zl _, by dsimp only; omega, rfl, ⟨.nil rfl, .inl rfl⟩, fo_zl _⟩, hev⟩, ⟨rfl, rfl, rfl, fo_tv⟩, Ent.pick [0, 999] rfl rfl⟩, ?_⟩
  rintro ⟨i, f, o, r⟩ js ⟨⟨h1, hf, he, hr2, hz⟩, -⟩
  dsimp only at h1 hf he hr2 hz ⊢
  obtain ⟨f', rfl⟩ : ∃ f', f = f' + 1 := ⟨f - 1, by omega⟩
  have hsz : r.n = o.size := hr2.size
  refine ⟨len_ok, rfl, ⟨w, w⟩, rfl, rfl, by dsimp only; omega, fo_tv, λ_ _ => br_decide (λhlt => ?_) (λhge => ?_)⟩
  · have hlt : i < w.size / 2 := by dsimp only at hlt; omega
    refine ⟨atu_ok, rfl, ⟨w, i⟩, rfl, rfl, ⟨by dsimp only; omega, by dsimp only; omega⟩, fo_tv, λ_ _ => ⟨⟨i, f' + 1, o, r⟩, ?_, ?_⟩⟩
    · have hC : nrC w i = bif decide (55296 ≤ unitN w i) && decide (unitN w i < 57344) then (bif decide (unitN w i < 56320) && (decide (i + 1 < w.size / 2) && (decide (56320 ≤ unitN w (i + 1)) && decide (unitN w (i + 1) < 57344))) then (65536 + (unitN w i - 55296) * 1024 + (unitN w (i + 1) - 56320), 2) else (65533, 1)) else (unitN w i, 1) := rfl
      have fin : ∀ (ch n : Nat), nrC w i = (ch, n) → ∀ I5 C : Int, I5 = ((i + n - 1 : Nat) : Int) → C = (ch : Int) → ∃ z : Nr2, (((z.d.ok w ∧ w.size % 2 = 0) ∧ z.d.i < w.size / 2) ∧ nrnG.snd z = ⟨i, f' + 1, o, r⟩) ∧ (string w = .string w ∧ slice r.a r.n r.cap = .slice z.d.r.a z.d.r.n z.d.r.cap ∧ int .i64 I5 = .int .i64 ((z.d.i + (nrC w z.d.i).2 - 1 : Nat) : Int) ∧ int .i64 C = .int .i64 ((nrC w z.d.i).1 : Nat) ∧ True) ∧ Ent [(0, F), (1, r.A)] [(0, F), (1, z.d.r.A)] := by
        intro ch n hn I5 C e1 e2
        refine ⟨⟨⟨i, f' + 1, o, r⟩⟩, ⟨⟨⟨⟨h1, hf, he, hr2, hz⟩, hev⟩, hlt⟩, rfl⟩, ⟨rfl, rfl, ?_, ?_, fo_tv⟩, Ent.pick [0, 1] rfl rfl⟩
        · dsimp only; rw [hn, e1]
        · dsimp only; rw [hn, e2]
      have fff : ∀ b : Bool, (decide (55296 ≤ unitN w i) && decide (unitN w i < 57344)) = true → (decide (unitN w i < 56320) && (decide (i + 1 < w.size / 2) && (decide (56320 ≤ unitN w (i + 1)) && decide (unitN w (i + 1) < 57344)))) = false → nrC w i = (65533, 1) := by
        intro _ a b
        rw [hC, a, b] <;> rfl
      have u1 := unitN_lt w i
      have u2 := unitN_lt w (i + 1)
      generalize hu : unitN w i = u at *
      generalize hv : unitN w (i + 1) = v at *
      generalize hA : decide ((u : Int) ≥ 55296) = bA
      generalize hB : decide ((u : Int) < 57344) = bB
      generalize hD : decide ((u : Int) < 56320) = bD
      cases bA with
      | false =>
        have hA := fo_od0 hA
        rw [br_false]
        exact fin u 1 (by rw [hC, fo_df (show ¬ 55296 ≤ u by omega)] <;> rfl) _ _ (by omega) rfl
      | true =>
      have hA := fo_od1 hA
      rw [br_true]
      cases bB with
      | false =>
        have hB := fo_od0 hB
        rw [br_false]
        exact fin u 1 (by rw [hC, fo_df (show ¬ u < 57344 by omega), fo_baf] <;> rfl) _ _ (by omega) rfl
      | true =>
      have hB := fo_od1 hB
      rw [br_true]
      have hAB : (decide (55296 ≤ u) && decide (u < 57344)) = true := by
        rw [fo_dt (show 55296 ≤ u by omega), fo_dt (show u < 57344 by omega)] <;> rfl
      refine ⟨⟨by omega, by omega⟩, atu_ok, rfl, ⟨w, i + 1⟩, rfl, rfl, ⟨by dsimp only; omega, by dsimp only; omega⟩, fo_tv, λ_ _ => ?_⟩
      dsimp only
      rw [hv]
      generalize hG : decide ((v : Int) ≥ 56320) = bG
      generalize hK : decide ((v : Int) < 57344) = bK
      cases bD with
      | false =>
        have hD := fo_od0 hD
        rw [br_false]
        exact fin 65533 1 (fff true hAB (by rw [fo_df (show ¬ u < 56320 by omega)] <;> rfl)) _ _ (by omega) rfl
      | true =>
      have hD := fo_od1 hD
      rw [br_true]
      refine br_decide (λhL => ?_) (λhL => fin 65533 1 (fff true hAB (by rw [fo_df hL, fo_fba, fo_baf])) _ _ (by omega) rfl)
      cases bG with
      | false =>
        have hG := fo_od0 hG
        rw [br_false]
        exact fin 65533 1 (fff true hAB (by rw [fo_df (show ¬ 56320 ≤ v by omega), fo_fba, fo_baf, fo_baf])) _ _ (by omega) rfl
      | true =>
      have hG := fo_od1 hG
      rw [br_true]
      cases bK with
      | false =>
        have hK := fo_od0 hK
        rw [br_false]
        exact fin 65533 1 (fff true hAB (by rw [fo_df (show ¬ v < 57344 by omega), fo_baf, fo_baf, fo_baf])) _ _ (by omega) rfl
      | true =>
      have hK := fo_od1 hK
      rw [br_true]
      refine ⟨⟨by omega, by omega⟩, shlt_ok rfl, (u : Int) - 55296, rfl, ⟨by omega, by omega⟩, ⟨by omega, by omega⟩, ⟨by omega, by omega⟩, ⟨by omega, by omega⟩, ⟨by omega, by omega⟩, fin (65536 + (u - 55296) * 1024 + (v - 56320)) 2 ?_ _ _ (by omega) (by omega)⟩
      rw [hC, hAB, fo_dt (show u < 56320 by omega), fo_dt hL, fo_dt (show 56320 ≤ v by omega), fo_dt (show v < 57344 by omega)] <;> rfl
    rintro ⟨d⟩ js ⟨-, hd⟩
    have hd : d = ⟨i, f' + 1, o, r⟩ := hd
    subst hd
    dsimp only
    obtain ⟨hn1, hn2, hn3⟩ := nrC_ok w i hlt
    refine ⟨cvi_ok rfl rfl rfl, _, rfl, by omega, ar_ok, rfl, ⟨r, o, (nrC w i).1⟩, rfl, rfl, ⟨hr2, hn1, hn2, by dsimp only; omega⟩, fo_tv, λy hy => ⟨⟨by omega, by omega⟩, ⟨i + (nrC w i).2, f', o ++ Utf8.encode (nrC w i).1, y⟩, ⟨⟨hn3.2, ?_, ?_, hy, ?_⟩, hev⟩, ⟨rfl, rfl, ?_, fo_tv⟩, Ent.pick [0, 1] rfl rfl, ?_⟩⟩
    · dsimp only; omega
    · rw [he, nrF, fo_dt hlt] <;> rfl
    · dsimp only
      have := enc_size4 (nrC w i).1
      rw [fo_sa]; omega
    · dsimp only
      congr 1; omega
    · show w.size / 2 - (i + (nrC w i).2) < w.size / 2 - i; omega
  · have hie : i = w.size / 2 := by dsimp only at hge; omega
    have hv : nrV w = o := by
      unfold nrV
      rw [h2, fo_ct, he, nrF, fo_df (show ¬ i < w.size / 2 by omega)] <;> rfl
    have hl := row_bytes hr2
    refine ⟨b2s_ok rfl rfl rfl rfl, rfl, ⟨r.a, r.n, r.cap, o.data.toList.map UInt8.toNat⟩, rfl, rfl, ?_, ?_, λ_ _ => ⟨(), fo_tv, ?_, Ent.pick [0] rfl rfl⟩⟩
    · exact hl.src
    · exact row_srcd 1 (by simp) rfl hl
    · show _ = returned (.tuple #[.string (nrV w), .int .i64 (nrE w)])
      unfold nrE
      rw [h2, hv, btL_of] <;> rfl
theorem nrn_ok : fo_k 37 nrnC := fo 67 Tryz.func37 (λ_ _ => [(5, 2, .c lenC [] []), (7, 2, .c atuC [] []), (9, 3, .c atuC [] []), (11, 2, .qo shlT), (14, 2, .qo cvI), (14, 3, .c arC [1] [1]), (15, 1, .o b2sC [] [])]) [] nrnInv nrnCut fo_o [] nrn_vc
end
section
open Go
set_option maxHeartbeats 1000000
abbrev tdC : Con where
  X := Tg
  Y := Unit
  args x := [.pointer (some ⟨x.h, 0, none⟩), .agg #[.int .i64 x.c0, .float .f64 x.f, .string x.s, .int .i64 0]]
  pre _ := []
  cond x := x.good
  rdc x F := Utf F ∧ x.Rd F ∧ x.good
  rel _ _ := True
  val x _ := .returned (.tuple #[.string ((jsV x.q).getD ⟨#[]⟩), .bool (jsV x.q).isSome])
  post _ _ := []
  rmono _ _ _ hs h := ⟨h.1.sub hs, h.2.2.sub hs h.2.1, h.2.2⟩
def T82 := fo_C1 37 nrnC q238
theorem td_vc (x : Tg) (F : Atom) (hc : tdC.cond x) (hr : tdC.rdc x F) :
 ∀(f : Nat), fo_sm f 0 ∧ fo_sm f 1 ∧ fo_sm f 2 ∧ fo_sm f 3 ∧ fo_C4 12 strC (λe => e.good) (λe rr => Utf rr ∧ e.Rd rr ∧ e.good) (λe d => d = strV e.q) [fo_vp (some ⟨x.h, 0, none⟩), agg ⟨q129 x⟩] ([] : List Atom) (fo_aR [(0, F), (1000, fo_cl f (q129 x) 30)] []) (λe d => ∀(c : Nat), fo_sm c 0 ∧ fo_sm c 1 ∧ fo_sm c 2 ∧ fo_sm c 3 ∧ Br (d.e != 0) (Done tdC x F q107 [(0, F), (1000, fo_cl f (q129 x) 30), (2060, fo_cl c [fo_vi d.k, float f64 0, fo_vs d.s, fo_vi 0] 30)]) (fo_sm c 2 ∧ T82 [fo_vs d.s] (λb a => Done tdC x F (fo_rt (tuple ⟨[fo_vs (nrV b.s), fo_vb true]⟩)) [(0, F), (1000, fo_cl f (q129 x) 30), (2060, fo_cl c [fo_vi d.k, float f64 0, fo_vs d.s, fo_vi 0] 30)]))) := by
  delta q129 q107 q238 T82 fo_aR fo_sm fo_C1 fo_C4 fo_vi fo_vs fo_vb fo_vp fo_cl fo_rt
  obtain ⟨hu, hR, hg⟩ := hr
  have hu : Utf F := hu
  intro b
  refine ⟨⟨rfl, rfl⟩, ⟨rfl, rfl⟩, ⟨rfl, rfl⟩, ⟨rfl, rfl⟩, str_ok, rfl, x, rfl, rfl, hc, ⟨Utf.rest (j := 0) (by simp) hu, hg.sub (sub_rest (A := F) 0 (by simp) rfl) hR, hg⟩, λy hy b2 => ⟨⟨rfl, rfl⟩, ⟨rfl, rfl⟩, ⟨rfl, rfl⟩, ⟨rfl, rfl⟩, ?_⟩⟩
  have fin : ∀ (S : St) (o : Option ByteArray), jsV x.q = o → Ent S (ofL [F]) → Done tdC x F (returned (tuple #[string (o.getD ⟨#[]⟩), bool o.isSome])) S := λS o h1 h2 => ⟨(), fo_tv, by subst h1; rfl, h2⟩
  unfold strV at hy
  try dsimp only at hy
  cases hq : decide (x.q.size ≤ 16384) with
  | false =>
    rw [hq, fo_cf] at hy
    subst hy
    exact br_intro (λ_ => fin _ none (by unfold jsV; rw [hq] <;> rfl) (Ent.pick [0] rfl rfl)) (λh => by cases h)
  | true =>
    rw [hq, fo_ct] at hy
    subst hy
    have hq2 := fo_od1 hq
    exact br_intro (λh => by cases h) (λ_ => ⟨⟨rfl, rfl⟩, nrn_ok, rfl, ⟨x.q⟩, rfl, rfl, by dsimp only; omega, fo_tv, λ_ _ => fin _ (some (nrV x.q)) (by unfold jsV; rw [hq] <;> rfl) (Ent.pick [0] rfl rfl)⟩)
theorem td_ok : fo_k 50 tdC := fo 25 Tryz.func50 (λ_ _ => [(0, 0, .n 1000), (1, 1, .q [.aq 1000, .aq 1000, .aq 1000, .aq 1000]), (1, 2, .c strC [] []), (1, 6, .n 2060), (1, 7, .w [.aq 2060, .aq 2060, .aq 2060, .aq 2060]), (4, 1, .q [.aq 2060]), (4, 2, .c nrnC [] [])]) [] fo_i fo_i fo_o [] td_vc
end
section
open Go
set_option maxHeartbeats 1000000
structure PuhX where
  b : Nat
  left : Int
  l : KVs
  k : ByteArray
  v : Pv
structure PuhX.ok (x : PuhX) : Prop where
  h1 : 1 ≤ x.left
  h2 : x.left ≤ 10000
  hk : x.k.size ≤ 1048576
  hv : x.v.ok
  hl : x.l.length ≤ 10000
abbrev puhC : Con where
  X := PuhX
  Y := Unit
  args x := [.pointer (some ⟨x.b, 0, none⟩), .int .i64 0, .string x.k, .agg #[.int .i64 x.v.k, .float .f64 x.v.f, .string x.v.s, .int .i64 0]]
  pre x := [hoA x.b x.left x.l]
  cond x := x.ok
  rdc _ _ := True
  rel _ _ := True
  val _ _ := .returned (.int .i64 0)
  post x _ := [hoA x.b (lftV x.k x.l x.left) (putV x.k x.v x.l)]
theorem puh_ok : fo_k 10 puhC :=
  pu_ok.pk (D := puhC) (λx y => hoR x.l y) (λx y => hoB x.b x.left x.l y) (λ_ => rfl) (λx y => ⟨x.b, x.left, x.l, y, x.k, x.v⟩) (λ_ _ _ _ => rfl) (λ_ _ => rfl)
    (λ_ _ h hy => ⟨⟨h.h1, h.h2, h.hk, h.hv, h.hl⟩, hy⟩) (λ_ _ _ _ _ _ => fo_tv) λ_ _ _ _ _ hz => ⟨(), fo_tv, rfl, PostLe.ex hz⟩
def HoY.a (y : HoY) : HaY := ⟨y.br, y.cap, y.bo, y.bm, y.kr.a, y.kr.n, y.kr.cap⟩
theorem hoIn_of {b : Nat} {left : Int} {l : KVs} {y : HoY} (F : Atom) (h : hoR l y) : HoIn y.a b l (.pred (rest (ofL (hoB b left l y ++ [F])) [])) where
  l0 := Look.rest (j := 0) (by simp) (Look.cells rfl)
  l1 := Look.rest (j := 1) (by simp) (Look.cells rfl)
  kd := Look.rest (j := 2) (by simp) (Look.cells rfl)
  ks := Look.rest (j := 2) (by simp) (Look.cells rfl)
  src := h.src
  nil := h.none'
  srd := row_srcd 3 (by simp) rfl h
  mp := Look.rest (j := 2) (by simp) (Look.cells rfl)
  ml := ⟨λ_ _ _ _ q => by
    obtain ⟨f, g, _⟩ := q
    exact (g 4).2⟩
  it := Look.rest (j := 2) (by simp) (Look.cells rfl)
structure TdoX where
  b : Nat
  left : Int
  l : TVs
abbrev tdoC : Con where
  X := TdoX
  Y := Unit
  args x := [.pointer (some ⟨x.b, 0, none⟩), .agg #[.int .i64 5, .float .f64 0, .string ⟨#[]⟩, .int .i64 0]]
  pre x := [hoA x.b x.left (tvL x.l)]
  cond x := x.l.length ≤ 10000 ∧ (∀ p ∈ x.l, p.1.size ≤ 1048576 ∧ p.2.size ≤ 1048576) ∧ (x.l.map (·.1)).Nodup
  rdc _ F := Utf F
  rel _ _ := True
  val x _ := .returned (.tuple #[.string ((jsV (obV quV x.l)).getD ⟨#[]⟩), .bool (jsV (obV quV x.l)).isSome])
  post _ _ := []
  rmono _ _ _ hs h := h.sub hs
theorem tdo_ok : fo_k 50 tdoC := ⟨λx F I w hc hr hs => by
  obtain ⟨h1, h2, h3⟩ := hc
  have hr : Utf F := hr
  obtain ⟨y, hy, hs⟩ := ex_open hs
  have hg := Tg.good.ob x.b y.a x.l h1 h2 h3
  refine (td_ok.h _ (.pred (rest (ofL (hoB x.b x.left (tvL x.l) y ++ [F])) [])) I w hg ⟨Utf.rest (j := 5) (by simp) hr, hoIn_of F hy, hg⟩ (hs.part (touch := []) List.nodup_nil)).mono λe w' ⟨z, J, k1, k2, k3, k4, k5⟩ => ?_
  have k4 := Sat.join (post := []) (touch := []) (out := []) k4
  exact ⟨(), J, fo_tv, k2, k3, k4.pick [5] rfl rfl, k5⟩⟩
def kvF (l : List Fld) : TVs := l.foldl (λa f => putV (wideV f.1) (wideV f.2) a) []
theorem wdC_len (c : Nat) : (wideC c).length ≤ 4 ∧ (wideC c).length % 2 = 0 := by
  unfold wideC
  cases decide (c > 65535) <;> simp
theorem wdF_len (s : ByteArray) : ∀ (f i : Nat) (o : List Nat), o.length % 2 = 0 → i ≤ s.size → (wideF s f i o).length ≤ o.length + 4 * (s.size - i) ∧ (wideF s f i o).length % 2 = 0
  | 0, i, o, h, _ => ⟨Nat.le_add_right _ _, h⟩
  | f + 1, i, o, h, hi => by
    rw [wideF]
    cases hlt : decide (i < s.size) with
    | false => exact ⟨Nat.le_add_right _ _, h⟩
    | true =>
      have hlt := fo_od1 hlt
      rw [fo_ct]
      cases hn : nextV s i with
      | none => exact ⟨fo_zl _, rfl⟩
      | some p =>
        obtain ⟨c, n⟩ := p
        have hf := next_facts hn
        have hw := wdC_len c
        have := wdF_len s f (i + n) (o ++ wideC c) (by rw [fo_la]; omega) hf.1
        rw [fo_la] at this
        exact ⟨by dsimp only; omega, this.2⟩
theorem wd_size (s : ByteArray) : (wideV s).size ≤ 4 * s.size ∧ (wideV s).size % 2 = 0 := by
  have := wdF_len s (s.size + 1) 0 [] rfl (fo_zl _)
  unfold wideV
  rw [btL_size]
  exact ⟨by simpa using this.1, this.2⟩
theorem tvL_put (k v : ByteArray) : ∀ l : TVs, tvL (putV k v l) = putV k (pvT v) (tvL l)
  | [] => rfl
  | (j, u) :: r => by
    have ih := tvL_put k v r
    show tvL (putV k v ((j, u) :: r)) = putV k (pvT v) ((j, pvT u) :: tvL r)
    rw [putV, putV]
    cases (j.toList == k.toList) with
    | true => rfl
    | false => rw [fo_cf, fo_cf, ← ih] <;> rfl
theorem putT_len {α : Type} (k : ByteArray) (v : α) : ∀ l : List (ByteArray × α), (putV k v l).length ≤ l.length + 1
  | [] => fo_nr _
  | (j, u) :: r => by
    rw [putV]
    cases (j.toList == k.toList) with
    | true => exact Nat.le_succ _
    | false => exact Nat.succ_le_succ (putT_len k v r)
theorem putT_mem {α : Type} {k : ByteArray} {v : α} {p : ByteArray × α} : ∀ {l : List (ByteArray × α)}, p ∈ putV k v l → (p.1 = k ∧ p.2 = v) ∨ (∃ u, (p.1, u) ∈ l ∧ p.2 = v) ∨ p ∈ l
  | [], h => by
    rw [putV, List.mem_singleton] at h
    subst h
    exact .inl ⟨rfl, rfl⟩
  | (j, u) :: r, h => by
    rw [putV] at h
    cases hb : (j.toList == k.toList) with
    | true =>
      rw [hb, fo_ct] at h
      rcases List.mem_cons.1 h with rfl | h
      · exact .inr (.inl ⟨u, fo_mc, rfl⟩)
      · exact .inr (.inr (fo_mm _ h))
    | false =>
      rw [hb, fo_cf] at h
      rcases List.mem_cons.1 h with rfl | h
      · exact .inr (.inr fo_mc)
      · rcases putT_mem h with h | ⟨w, h1, h2⟩ | h
        · exact .inl h
        · exact .inr (.inl ⟨w, fo_mm _ h1, h2⟩)
        · exact .inr (.inr (fo_mm _ h))
theorem putT_nodup {α : Type} (k : ByteArray) (v : α) : ∀ (l : List (ByteArray × α)), (l.map (·.1)).Nodup → ((putV k v l).map (·.1)).Nodup
  | [], _ => by simp [putV]
  | (j, u) :: r, h => by
    rw [List.map_cons, List.nodup_cons] at h
    rw [putV]
    cases hb : (j.toList == k.toList) with
    | true => rw [fo_ct, List.map_cons, List.nodup_cons]; exact h
    | false =>
      rw [fo_cf, List.map_cons, List.nodup_cons]
      refine ⟨λhm => ?_, putT_nodup k v r h.2⟩
      obtain ⟨p, hp, e⟩ := List.mem_map.1 hm
      have e : p.1 = j := e
      rcases putT_mem hp with ⟨h1, _⟩ | ⟨w, h1, _⟩ | h1
      · have : bEq j k = true := (bEq_eq j k).2 (e.symm.trans h1)
        rw [show bEq j k = false from hb] at this
        cases this
      · exact h.1 (List.mem_map.2 ⟨_, h1, e⟩)
      · exact h.1 (List.mem_map.2 ⟨_, h1, e⟩)
structure KvOk (l : TVs) (n : Nat) : Prop where
  len : l.length ≤ n
  sz : ∀ p ∈ l, (p.1.size ≤ 16384 ∧ p.1.size % 2 = 0) ∧ (p.2.size ≤ 16384 ∧ p.2.size % 2 = 0)
  nd : (l.map (·.1)).Nodup
theorem KvOk.put {l : TVs} {n : Nat} (h : KvOk l n) {k v : ByteArray} (hk : k.size ≤ 4096) (hv : v.size ≤ 4096) : KvOk (putV (wideV k) (wideV v) l) (n + 1) where
  len := by have := putT_len (wideV k) (wideV v) l; have := h.len; omega
  sz := by
    intro p hp
    have a := wd_size k
    have b := wd_size v
    rcases putT_mem hp with ⟨h1, h2⟩ | ⟨w, h1, h2⟩ | h1
    · rw [h1, h2]; omega
    · have := h.sz _ h1
      dsimp only at this
      rw [h2]; omega
    · exact h.sz _ h1
  nd := putT_nodup _ _ _ h.nd
theorem kvF_ok : ∀ (l : List Fld) (a : TVs) (n : Nat), KvOk a n → (∀ f ∈ l, f.1.size ≤ 4096 ∧ f.2.size ≤ 4096) → KvOk (l.foldl (λa f => putV (wideV f.1) (wideV f.2) a) a) (n + l.length)
  | [], _, _, h, _ => h
  | f :: r, a, n, h, hf => by
    have := kvF_ok r _ _ (h.put (hf f fo_mc).1 (hf f fo_mc).2) λg hg => hf g (fo_mm _ hg)
    rw [fo_lc, show n + (r.length + 1) = n + 1 + r.length by omega]
    exact this
theorem kvOk_nil : KvOk [] 0 := ⟨fo_nr _, λ_ h => (by cases h), .nil⟩
theorem kvF_take {l : List Fld} {i : Nat} {f : Fld} (h : l[i]? = some f) : kvF (l.take (i + 1)) = putV (wideV f.1) (wideV f.2) (kvF (l.take i)) := by
  unfold kvF
  rw [List.take_succ, h, Option.toList_some, List.foldl_append] <;> rfl
structure ObjX where
  a : Option Addr
  n : Nat
  cap : Nat
  l : List Fld
abbrev bobC : Con where
  X := ObjX
  Y := Unit
  args x := [.slice x.a x.n x.cap]
  pre _ := []
  cond x := IsSrc 2 (fCs x.l) x.a x.n ∧ x.l.length ≤ 64 ∧ ∀ f ∈ x.l, f.1.size ≤ 4096 ∧ f.2.size ≤ 4096
  rdc x F := Srcd F x.a (fCs x.l) ∧ Utf F
  rel _ _ := True
  val x _ := .returned (.tuple #[.string ((jsV (jobV x.l)).getD ⟨#[]⟩), .bool (jsV (jobV x.l)).isSome])
  post _ _ := []
  rmono _ _ _ hs h := ⟨h.1.sub hs, h.2.sub hs⟩
structure ObjS where
  i : Nat
  b : Nat
  left : Int
structure ObjS.ok (d : ObjS) (n : Nat) : Prop where
  hi : d.i ≤ n
  h1 : 9999 ≤ d.left + d.i
  h2 : d.left ≤ 9999
def objInv (x : ObjX) (F : Atom) : Nat → Option Inv := fun
  | 0 => some { X := ObjS, P := λd => d.ok x.n, mu := λd => x.n - d.i, lv := λd => [(4, .pointer (some ⟨d.b, 0, none⟩)), (5, .int .i64 0), (15, .slice x.a x.n x.cap), (16, .int .i64 x.n), (17, .int .i64 d.i)], st := λd => [F, hoA d.b d.left (tvL (kvF (x.l.take d.i)))] }
  | _ => none
def T83 := fo_C0 6 nwaC
def T84 := fo_C3 8 plC (λw0 => 1 ≤ w0.left ∧ w0.left ≤ 10000)
abbrev q23 : List Value := [fo_vl none 0 0, fo_vi 10000]
abbrev q312 (a : ObjS) : Option Addr := some ⟨a.b, 0, none⟩
abbrev q144 (F : Atom) (a : ObjS) (x : ObjX) := [(0, F), (1, fo_pr (Ex.rest (hoR (tvL (kvF (List.take a.i x.l)))) (hoB a.b a.left (tvL (kvF (List.take a.i x.l))))))]
abbrev q253 (F : Atom) (m : ObjS) (x : ObjX) (h : Nat) (j i : ByteArray) := fo_aR [(0, F), (1, fo_pr (Ex.rest (hoR (tvL (kvF (List.take m.i x.l)))) (hoB m.b m.left (tvL (kvF (List.take m.i x.l)))))), (6020, fo_cl h (q210 j i) 36)] []
def T85 := fo_C2 51 tbC q238 (λ_ => Utf)
def T86 := fo_C3 10 puhC (λw0 => w0.ok)
def q158 (b : TdoX) := List.length b.l ≤ 10000 ∧ (∀(a : ByteArray × ByteArray), a ∈ b.l → a.fst.size ≤ 1048576 ∧ a.snd.size ≤ 1048576) ∧ (List.map (λ(a : ByteArray × ByteArray) => a.fst) b.l).Nodup
theorem bob_vc (x : ObjX) (F : Atom) (hc : bobC.cond x) (hr : bobC.rdc x F) :
 T83 [fo_vi 10000] (λq p => T84 [fo_vp (q17 p), fo_vi (-1)] [fo_cl p q23 60] (λo n => (∃(a : ObjS), a.ok x.n ∧ (fo_vp (q17 p) = fo_vp (q312 a) ∧ fo_vi 0 = fo_vi 0 ∧ fo_vl x.a x.n x.cap = fo_vl x.a x.n x.cap ∧ fo_vi ↑x.n = fo_vi ↑x.n ∧ fo_vi 0 = fo_vi ↑a.i ∧ True) ∧ Ent [(0, F), (500, fo_pr (Ex.rest (hoR []) (hoB o.b (o.left - 1) [])))] (q144 F a x)) ∧ fo_vA λ(m : ObjS) _ => m.ok x.n → fo_Bd ((m.i : Int) < (x.n : Int)) (T30 (opIn Tryz.f48 5 0) [fo_vl x.a x.n x.cap, fo_vi ↑m.i] (λk => T25 F ⟨k.b, k.o + k.n.toNat * 2, none⟩ (λj => T25 F ⟨k.b, k.o + k.n.toNat * 2 + 1, none⟩ (λi => ∀(h : Nat), fo_sm h 0 ∧ fo_sm h 1 ∧ true = true ∧ fo_sm h 0 ∧ T69 [fo_vs j] (q253 F m x h j i) (λg f => fo_sm h 1 ∧ T85 [fo_vs i] (q253 F m x h j i) (λe d => T86 [fo_vp (q312 m), fo_vi 0, fo_vs (wideV g.s), agg ⟨q42 e⟩] [fo_pr (Ex.rest (hoR (tvL (kvF (List.take m.i x.l)))) (hoB m.b m.left (tvL (kvF (List.take m.i x.l)))))] (λc b => fo_rI ((m.i : Int) + 1) ∧ ∃(a : ObjS), a.ok x.n ∧ (fo_vp (q312 m) = fo_vp (q312 a) ∧ fo_vi 0 = fo_vi 0 ∧ fo_vl x.a x.n x.cap = fo_vl x.a x.n x.cap ∧ fo_vi ↑x.n = fo_vi ↑x.n ∧ fo_vi ((m.i : Int) + 1) = fo_vi ↑a.i ∧ True) ∧ Ent [(0, F), (1, fo_pr (Ex.rest (hoR (putV c.k c.v c.l)) (hoB c.b (lftV c.k c.l c.left) (putV c.k c.v c.l)))), (6020, fo_cl h (q210 j i) 36)] (q144 F a x) ∧ x.n - a.i < x.n - m.i))))))) (fo_C4 50 tdoC (λb => q158 b) (λ_ => Utf) (λ_ _ => True) [fo_vp (q312 m), agg ⟨q12⟩] [fo_pr (Ex.rest (hoR (tvL (kvF (List.take m.i x.l)))) (hoB m.b m.left (tvL (kvF (List.take m.i x.l)))))] (fo_aR (q144 F m x) [1]) (λb a => Done bobC x F (fo_rt (tuple ⟨[fo_vs ((jsV (obV quV b.l)).getD q59), fo_vb (jsV (obV quV b.l)).isSome]⟩)) [(0, F), (1, fo_em)])))) := by
  delta T83 T84 q17 q23 q312 q144 q175 T30 T25 q238 T69 q210 q253 T85 T86 q42 q158 q12 q59 fo_aR fo_sm fo_rI fo_C0 fo_C2 fo_C3 fo_C4 fo_vi fo_vs fo_vb fo_vp fo_vl fo_cl fo_pr fo_em fo_Bd fo_rt fo_vA
  obtain ⟨a, n, cap, l⟩ := x
  obtain ⟨hsrc, hl, hsz⟩ := hc
  obtain ⟨hr, hu⟩ := hr
  have hr : Srcd F a (fCs l) := hr
  have hu : Utf F := hu
  dsimp only at hsrc hl hsz ⊢
  have hn := hsrc.len
  rw [fCs_length] at hn
  have hkv : ∀ i, KvOk (kvF (l.take i)) i := λi => by
    have := kvF_ok (l.take i) [] 0 kvOk_nil λf hf => hsz f (List.mem_of_mem_take hf)
    rw [fo_za] at this
    exact ⟨fo_lt this.len (List.length_take_le _ _), this.sz, this.nd⟩
  refine ⟨nwa_ok, rfl, (), rfl, rfl, fo_tv, fo_tv, λb _ => ⟨plh_ok, rfl, ⟨b, 10000⟩, rfl, rfl, ⟨by dsimp only; omega, by dsimp only; omega⟩, fo_tv, λ_ _ => ⟨⟨⟨0, b, 9999⟩, ⟨fo_zl _, by dsimp only; omega, by dsimp only; omega⟩, ⟨rfl, rfl, rfl, rfl, rfl, fo_tv⟩, Ent.pick [0, 500] rfl rfl⟩, ?_⟩⟩⟩
  rintro ⟨i, b, left⟩ js ⟨h1, h2, h3⟩
  dsimp only at h1 h2 h3 ⊢
  have hk := hkv i
  refine br_decide (λh => ?_) (λh => ?_)
  · have hlt : i < l.length := by omega
    obtain ⟨c, o, rfl⟩ := hsrc.some (by omega)
    obtain ⟨q, hq⟩ : ∃ q, l[i]? = some q := ⟨l[i], fo_ge hlt⟩
    obtain ⟨g1, g2⟩ := fCs_get hq
    have hz := hsz q (fo_mg hq)
    have ht := kvF_take hq
    obtain ⟨q1, q2⟩ := q
    dsimp only at hz ht
    have w1 := wd_size q1
    have w2 := wd_size q2
    have hlk := hk.len
    refine ⟨ixq_ok 2 rfl rfl rfl rfl, ⟨c, o, n, cap, i⟩, rfl, ⟨by dsimp only; omega, h⟩, q1, ?_, q2, ?_, λd => ⟨⟨rfl, rfl⟩, ⟨rfl, rfl⟩, rfl, ⟨rfl, rfl⟩, wl_ok, rfl, ⟨q1⟩, rfl, rfl, by dsimp only; omega, Utf.rest (j := 0) (by simp) hu, λ_ _ => ⟨⟨rfl, rfl⟩, tb_ok, rfl, ⟨q2⟩, rfl, rfl, by dsimp only; omega, Utf.rest (j := 0) (by simp) hu, λ_ _ => ⟨puh_ok, rfl, ⟨b, left, tvL (kvF (l.take i)), wideV q1, .t (wideV q2)⟩, rfl, rfl, ⟨by dsimp only; omega, by dsimp only; omega, by dsimp only; omega, w2.2, ?_⟩, fo_tv, λ_ _ => ⟨⟨by omega, by omega⟩, ⟨i + 1, b, lftV (wideV q1) (tvL (kvF (l.take i))) left⟩, ⟨by dsimp only; omega, ?_, ?_⟩, ⟨rfl, rfl, rfl, rfl, rfl, fo_tv⟩, Ent.pick [0, 1] rfl ?_, by dsimp only; omega⟩⟩⟩⟩⟩
    · have := Srcd.look hr g1
      dsimp only
      rw [fo_tn, Nat.mul_comm]
      exact this
    · have := Srcd.look hr g2
      dsimp only
      rw [fo_tn, Nat.mul_comm i 2, Nat.add_assoc]
      exact this
    · show (tvL (kvF (l.take i))).length ≤ 10000
      unfold tvL
      rw [List.length_map]; omega
    · show 9999 ≤ lftV (wideV q1) (tvL (kvF (l.take i))) left + ((i + 1 : Nat) : Int)
      unfold lftV
      cases hasK (wideV q1) (tvL (kvF (l.take i))) <;> simp only [fo_ct, fo_cf] <;> omega
    · show lftV (wideV q1) (tvL (kvF (l.take i))) left ≤ 9999
      unfold lftV
      cases hasK (wideV q1) (tvL (kvF (l.take i))) <;> simp only [fo_ct, fo_cf] <;> omega
    · dsimp only
      rw [ht, tvL_put] <;> rfl
  · have hi : i = l.length := by omega
    rw [hi, List.take_length] at hk ⊢
    have hlk := hk.len
    exact ⟨tdo_ok, rfl, ⟨b, left, kvF l⟩, rfl, rfl, ⟨by dsimp only; omega, λp hp => by have := hk.sz p hp; omega, hk.nd⟩, Utf.rest (j := 0) (by simp) hu, λ_ _ => ⟨(), fo_tv, rfl, Ent.pick [0] rfl rfl⟩⟩
theorem bob_ok : fo_k 48 bobC := fo 37 Tryz.func48 (λ_ _ => [(1, 0, .c nwaC [] [500]), (2, 1, .c plC [500] [500]), (5, 0, .qo (ixQ 2)), (5, 1, .q [.ex 0 .str, .ex 0 .str]), (5, 2, .n 6020), (5, 3, .w [.aq 6020, .aq 6020]), (6, 3, .q [.aq 6020]), (6, 4, .c wC [] []), (6, 6, .q [.aq 6020]), (6, 7, .c tbC [] []), (6, 8, .c puhC [1] [1]), (8, 3, .c tdoC [1] [])]) [] objInv fo_i fo_o [] bob_vc
end
end Go.Proofs.YtjdabjmjldiodaaGreatDoor
