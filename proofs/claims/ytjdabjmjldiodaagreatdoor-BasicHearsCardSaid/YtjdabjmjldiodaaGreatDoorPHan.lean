/- A part of the proof that pennantlaw23.BasicHears answers true at every input. -/
import Derived.Test.YtjdabjmjldiodaaGreatDoorPHam
set_option linter.all false
namespace Go.Proofs.YtjdabjmjldiodaaGreatDoor
set_option maxRecDepth 100000
open Go.Value (int slice string bool pointer agg tuple func float iface nilIface)
open Go.IntKind (i64 u8 u64 i32 u32 u16 i8 i16)
open Go.FloatKind (f64)
open Go.Ending (returned panicked)
section
open Go
set_option maxHeartbeats 1000000
abbrev saC2 : Con where
  X := StX
  Y := Unit
  args x := [.string x.s]
  pre _ := []
  cond x := x.s.size ≤ 1048576
  rdc _ _ := True
  rel _ _ := True
  val x _ := .returned (.tuple #[.string ((sdV x.s).getD ⟨#[]⟩), .bool (sdV x.s).isSome])
  post _ _ := []
structure SaS where
  i : Nat
  o : ByteArray
  f : Nat
def saInv2 (x : StX) (F : Atom) : Nat → Option Inv := fun
  | 0 => some { X := SaS, P := λd => d.i ≤ x.s.size ∧ x.s.size < d.i + d.f ∧ d.o.size ≤ d.i ∧ sdV x.s = sdF x.s d.f d.i d.o, mu := λd => x.s.size - d.i, lv := λd => [(0, .string x.s), (4, .string d.o), (5, .int .i64 d.i)], st := λ_ => [F] }
  | _ => none
def saOv2 (_x : StX) (_F : Atom) : List (Nat × Nat × OH) := [(11, 3, .c sxrC [] []), (11, 8, .c sxrC [] []), (16, 2, .n 17020), (16, 3, .o b2sC [] [])]
def q210 (z : SaS) (e0 : StX) := z.i ≤ e0.s.size ∧ e0.s.size < z.i + z.f ∧ z.o.size ≤ z.i ∧ sdV e0.s = sdF e0.s z.f z.i z.o
def T126 (e0 : StX) (e1 : Atom) (v0 v1 : Value) (ss : St) (mm : Nat) := ∃ (z : SaS), q210 z e0 ∧ (fo_vs e0.s = fo_vs e0.s ∧ v0 = fo_vs z.o ∧ v1 = fo_vi ↑z.i ∧ True) ∧ Ent ss [(0, e1)] ∧ e0.s.size - z.i < mm
def T127 := fo_C1 157 sxrC (λw0 => w0.c < 256)
theorem sa2_vc (x : StX) (F : Atom) (hc : saC2.cond x) (hr : saC2.rdc x F) :
 (∃(a : SaS), q210 a x ∧ (fo_vs x.s = fo_vs x.s ∧ fo_vs ⟨#[]⟩ = fo_vs a.o ∧ fo_vi 0 = fo_vi ↑a.i ∧ True) ∧ Ent [(0, F)] [(0, F)]) ∧ fo_vA λ(j : SaS) _ => q210 j x → fo_Bd ((j.i : Int) < (x.s.size : Int)) ((0 ≤ (j.i : Int) ∧ (j.i : Int) < (x.s.size : Int)) ∧ fo_rI ((j.i : Int) + 1) ∧ Br (byteAt x.s (j.i : Int) == 43) (∀(d : Nat), T4 (opIn Tryz.f99 16 3) [fo_vl (q13 d) 1 1] (fo_aR [(0, F), (17020, fo_cl d [fo_vc 32] 5)] []) (λc b => j.o.size + (btL c.l).size ≤ 9223372036854775807 ∧ T126 x F (fo_vs (j.o ++ btL c.l)) (fo_vi ((j.i : Int) + 1)) [(0, F), (17020, fo_cl d [fo_vc 32] 5)] (x.s.size - j.i))) (Br (byteAt x.s (j.i : Int) == 37) (fo_rI ((j.i : Int) + 1 + (1 : Int)) ∧ fo_Bd ((j.i : Int) + 1 + 1 ≥ (x.s.size : Int)) (Done saC2 x F q56 [(0, F)]) (true = true ∧ (0 ≤ (j.i : Int) + 1 ∧ (j.i : Int) + 1 < (x.s.size : Int)) ∧ T127 [fo_vc (byteAt x.s ((j.i : Int) + 1))] (λh g => fo_rI ((j.i : Int) + 1 + (1 : Int)) ∧ (0 ≤ (j.i : Int) + 1 + (1 : Int) ∧ (j.i : Int) + 1 + 1 < (x.s.size : Int)) ∧ T127 [fo_vc (byteAt x.s ((j.i : Int) + 1 + (1 : Int)))] (λf e => fo_Bd (sx h.c < 0) (Done saC2 x F q56 [(0, F)]) (fo_Bd (sx f.c < 0) (Done saC2 x F q56 [(0, F)]) (fo_rI (sx h.c * 16) ∧ fo_rI (sx h.c * 16 + sx f.c) ∧ (0 ≤ sx h.c * 16 + sx f.c ∧ sx h.c * 16 + sx f.c ≤ 255) ∧ fo_rI ((j.i : Int) + 1 + (2 : Int)) ∧ ∀(d : Nat), T4 (opIn Tryz.f99 16 3) [fo_vl (q13 d) 1 1] (fo_aR [(0, F), (17020, fo_cl d [fo_vc (sx h.c * 16 + sx f.c)] 5)] []) (λc b => j.o.size + (btL c.l).size ≤ 9223372036854775807 ∧ T126 x F (fo_vs (j.o ++ btL c.l)) (fo_vi ((j.i : Int) + 1 + (2 : Int))) [(0, F), (17020, fo_cl d [fo_vc (sx h.c * 16 + sx f.c)] 5)] (x.s.size - j.i)))))))) (∀(d : Nat), T4 (opIn Tryz.f99 16 3) [fo_vl (q13 d) 1 1] (fo_aR [(0, F), (17020, fo_cl d [fo_vc (byteAt x.s (j.i : Int))] 5)] []) (λc b => j.o.size + (btL c.l).size ≤ 9223372036854775807 ∧ T126 x F (fo_vs (j.o ++ btL c.l)) (fo_vi ((j.i : Int) + 1)) [(0, F), (17020, fo_cl d [fo_vc (byteAt x.s (j.i : Int))] 5)] (x.s.size - j.i))))) (Done saC2 x F (fo_rt (tuple ⟨[fo_vs j.o, fo_vb true]⟩)) [(0, F)]) := by
  delta q210 T4 q13 T126 q56 T127 fo_aR fo_rI fo_C1 fo_O2 fo_vi fo_vc fo_vs fo_vb fo_vl fo_cl fo_Bd fo_rt fo_vA
  have hs : x.s.size ≤ 1048576 := hc
  refine ⟨⟨⟨0, ⟨#[]⟩, x.s.size + 1⟩, ⟨fo_zl _, by dsimp only; omega, fo_zl _, rfl⟩, ⟨rfl, rfl, rfl, fo_tv⟩, Ent.pick [0] rfl rfl⟩, ?_⟩
  rintro ⟨i, o, f⟩ js ⟨h1, h2, h3, h4⟩
  dsimp only at h1 h2 h3 h4 ⊢
  obtain ⟨f', rfl⟩ : ∃ f', f = f' + 1 := ⟨f - 1, by omega⟩
  have eNul : byteAt x.s (i : Int) = (bt x.s i : Int) := by rw [byteAt_bt, fo_tn]
  have e1 : byteAt x.s ((i : Int) + 1) = (bt x.s (i + 1) : Int) := by rw [byteAt_bt, show ((i : Int) + 1).toNat = i + 1 by omega]
  have e2 : byteAt x.s ((i : Int) + 1 + 1) = (bt x.s (i + 2) : Int) := by rw [byteAt_bt, show ((i : Int) + 1 + 1).toNat = i + 2 by omega]
  rw [eNul, e1, e2]
  have fin : ∀ v, sdV x.s = v → Done saC2 x F (returned (tuple #[string (v.getD ⟨#[]⟩), bool v.isSome])) [(0, F)] := λv e => ⟨(), fo_tv, by subst e; rfl, Ent.pick [0] rfl rfl⟩
  have one : ∀ (b u : Nat), Srcd (.pred (rest [(0, F), (17020, Atom.cells b [int .u8 (u : Int)] 5)] [])) (some ⟨b, 0, none⟩) (u8s [u]) := λb u a ha => by
    cases ha
    exact Seg.rest (j := 17020) (by simp) (Seg.cells (λj u hj => by rw [fo_za]; exact hj))
  have hz : ∀ u : Nat, o.size + (btL [u]).size ≤ 9223372036854775807 := λu => by rw [btL_size]; simp only [fo_l1]; omega
  refine br_decide (λh => ⟨⟨by omega, by omega⟩, ⟨by omega, by omega⟩, ?_⟩) (λh => ?_)
  · have hlt : i < x.s.size := by omega
    rw [sdF, fo_dt hlt, fo_ct] at h4
    refine br_intro (λc1 b => ?_) (λc1 => br_intro (λc2 => ?_) (λc2 b => ?_))
    · rw [eqN 43 c1, fo_ct] at h4
      exact ⟨b2s_ok rfl rfl rfl rfl, rfl, ⟨some ⟨b, 0, none⟩, 1, 1, [32]⟩, rfl, rfl, .blk b 0 1 rfl, one b 32, λ_ _ => ⟨hz 32, ⟨i + 1, o ++ btL [32], f'⟩, ⟨hlt, by dsimp only; omega, by dsimp only; rw [sz_app]; exact Nat.succ_le_succ h3, h4⟩, ⟨rfl, rfl, rfl, fo_tv⟩, Ent.pick [0] rfl rfl, by dsimp only; omega⟩⟩
    · rw [eqN 43 c1, fo_cf, eqN 37 c2, fo_ct] at h4
      refine ⟨⟨by omega, by omega⟩, br_decide (λc3 => fin none ?_) (λc3 => ⟨rfl, ⟨by omega, by omega⟩, sxr_ok, rfl, ⟨bt x.s (i + 1)⟩, rfl, rfl, bt_lt' _ _, fo_tv, λ_ _ => ⟨⟨by omega, by omega⟩, ⟨by omega, by omega⟩, sxr_ok, rfl, ⟨bt x.s (i + 2)⟩, rfl, rfl, bt_lt' _ _, fo_tv, λ_ _ => ?_⟩⟩)⟩
      · rw [fo_dt (show x.s.size ≤ i + 2 by omega), fo_ct] at h4
        exact h4
      rw [fo_df (show ¬ x.s.size ≤ i + 2 by omega), fo_cf] at h4
      refine br_decide (λc4 => fin none ?_) (λc4 => br_decide (λc5 => fin none ?_) (λc5 => ?_))
      · rw [fo_dt (show sx (bt x.s (i + 1)) < 0 from c4)] at h4; exact h4
      · rw [fo_dt (show sx (bt x.s (i + 2)) < 0 from c5), fo_bot] at h4; exact h4
      · rw [fo_df (show ¬ sx (bt x.s (i + 1)) < 0 from c4), fo_df (show ¬ sx (bt x.s (i + 2)) < 0 from c5), Bool.or_self, fo_cf] at h4
        have q1 := sx_lt (bt x.s (i + 1))
        have q2 := sx_lt (bt x.s (i + 2))
        dsimp only at c4 c5 ⊢
        revert q1 q2 c4 c5 h4
        generalize sx (bt x.s (i + 1)) = u
        generalize sx (bt x.s (i + 2)) = v
        intro h4 c4 c5 q1 q2
        obtain ⟨a, rfl⟩ : ∃ a : Nat, u = a := ⟨u.toNat, by omega⟩
        obtain ⟨c, rfl⟩ : ∃ a : Nat, v = a := ⟨v.toNat, by omega⟩
        rw [fo_tn, fo_tn] at h4
        exact ⟨⟨by omega, by omega⟩, ⟨by omega, by omega⟩, ⟨by omega, by omega⟩, ⟨by omega, by omega⟩, λb => ⟨b2s_ok rfl rfl rfl rfl, rfl, ⟨some ⟨b, 0, none⟩, 1, 1, [a * 16 + c]⟩, rfl, rfl, .blk b 0 1 rfl, one b (a * 16 + c), λ_ _ => ⟨hz _, ⟨i + 3, o ++ btL [a * 16 + c], f'⟩, ⟨by dsimp only; omega, by dsimp only; omega, by dsimp only; rw [sz_app]; simp only [fo_l1]; omega, h4⟩, ⟨rfl, rfl, rfl, fo_tv⟩, Ent.pick [0] rfl rfl, by dsimp only; omega⟩⟩⟩
    · rw [eqN 43 c1, fo_cf, eqN 37 c2, fo_cf] at h4
      exact ⟨b2s_ok rfl rfl rfl rfl, rfl, ⟨some ⟨b, 0, none⟩, 1, 1, [bt x.s i]⟩, rfl, rfl, .blk b 0 1 rfl, one b (bt x.s i), λ_ _ => ⟨hz _, ⟨i + 1, o ++ btL [bt x.s i], f'⟩, ⟨hlt, by dsimp only; omega, by dsimp only; rw [sz_app]; exact Nat.succ_le_succ h3, h4⟩, ⟨rfl, rfl, rfl, fo_tv⟩, Ent.pick [0] rfl rfl, by dsimp only; omega⟩⟩
  · rw [sdF, fo_df (show ¬ i < x.s.size by omega), fo_cf] at h4
    exact fin (some o) h4
theorem sa2_ok : fo_k 99 saC2 := fo 55 Tryz.func99 saOv2 [] saInv2 fo_i fo_o [] sa2_vc
def fnrInv (x : FnX) (F : Atom) : Nat → Option Inv := fun
  | 0 => some { X := Nat, P := λi => i ≤ x.n ∧ fndV x.nm x.l = fndV x.nm (x.l.drop i), mu := λi => x.n - i, lv := λi => [(0, .slice x.a x.n x.cap), (1, .string x.nm), (6, .int .i64 i)], st := λ_ => [F] }
  | _ => none
theorem fnr_vc (x : FnX) (F : Atom) (hc : fdC.cond x) (hr : fdC.rdc x F) :
 (∃(a : Nat), q142 a x ∧ (fo_vl x.a x.n x.cap = fo_vl x.a x.n x.cap ∧ fo_vs x.nm = fo_vs x.nm ∧ fo_vi 0 = fo_vi ↑a ∧ True) ∧ Ent [(0, F)] [(0, F)]) ∧ fo_vA λ(f : Nat) _ => q142 f x → fo_Bd ((f : Int) < (x.n : Int)) (T30 (opIn Tryz.f55 4 2) [fo_vl x.a x.n x.cap, fo_vi ↑f] (λd => T25 F ⟨d.b, d.o + d.n.toNat * 2, none⟩ (λc => Br (c.toList == x.nm.toList) (T30 (opIn Tryz.f55 5 2) [fo_vl x.a x.n x.cap, fo_vi ↑f] (λb => T25 F ⟨b.b, b.o + b.n.toNat * 2 + 1, none⟩ (λa => Done fdC x F (fo_rt (tuple ⟨[fo_vs a, fo_vb true]⟩)) [(0, F)]))) (fo_rI ((f : Int) + (1 : Int)) ∧ ∃(a : Nat), q142 a x ∧ (fo_vl x.a x.n x.cap = fo_vl x.a x.n x.cap ∧ fo_vs x.nm = fo_vs x.nm ∧ fo_vi ((f : Int) + (1 : Int)) = fo_vi ↑a ∧ True) ∧ Ent [(0, F)] [(0, F)] ∧ x.n - a < x.n - f)))) (Done fdC x F q56 [(0, F)]) := by
  delta q142 q116 T30 T25 q56 fo_rI fo_vi fo_vs fo_vb fo_vl fo_Bd fo_rt fo_vA
  obtain ⟨a, n, cap, l, nm⟩ := x
  obtain ⟨hsrc, hl⟩ := hc
  have hr : Srcd F a (fCs l) := hr
  dsimp only at hsrc hl ⊢
  have hn := hsrc.len
  rw [fCs_length] at hn
  refine ⟨⟨0, ⟨fo_zl _, rfl⟩, ⟨rfl, rfl, rfl, fo_tv⟩, Ent.pick [0] rfl rfl⟩, ?_⟩
  rintro i js ⟨h1, h2⟩
  have fin : ∀ (v : Option ByteArray), fndV nm l = v → Done fdC ⟨a, n, cap, l, nm⟩ F (returned (tuple #[string (v.getD ⟨#[]⟩), bool v.isSome])) [(0, F)] := λv e => ⟨(), fo_tv, by subst e; rfl, Ent.pick [0] rfl rfl⟩
  refine br_decide (λh => ?_) (λh => fin none ?_)
  · have hlt : i < l.length := by omega
    obtain ⟨b, o, rfl⟩ := hsrc.some (by omega)
    obtain ⟨q, hq⟩ : ∃ q, l[i]? = some q := ⟨l[i], fo_ge hlt⟩
    have hdrop : l.drop i = q :: l.drop (i + 1) := by
      rw [List.drop_eq_getElem_cons hlt]
      rw [fo_ge hlt] at hq
      rw [Option.some.inj hq]
    obtain ⟨g1, g2⟩ := fCs_get hq
    obtain ⟨q1, q2⟩ := q
    rw [hdrop, fndV] at h2
    have k1 := Srcd.look hr g1
    have k2 := Srcd.look hr g2
    refine ⟨ixq_ok 2 rfl rfl rfl rfl, ⟨b, o, n, cap, i⟩, rfl, ⟨by dsimp only; omega, h⟩, q1, ?_, br_intro (λe => ⟨ixq_ok 2 rfl rfl rfl rfl, ⟨b, o, n, cap, i⟩, rfl, ⟨by dsimp only; omega, h⟩, q2, ?_, fin (some q2) ?_⟩) (λe => ⟨⟨by omega, by omega⟩, i + 1, ⟨by omega, ?_⟩, ⟨rfl, rfl, rfl, fo_tv⟩, Ent.pick [0] rfl rfl, by omega⟩)⟩
    · dsimp only
      rw [fo_tn, Nat.mul_comm]
      exact k1
    · dsimp only
      rw [fo_tn, Nat.mul_comm i 2, Nat.add_assoc]
      exact k2
    · rw [h2, e] <;> rfl
    · rw [h2, e] <;> rfl
  · rw [h2, List.drop_eq_nil_of_le (by omega)] <;> rfl
theorem fnr_ok : fo_k 55 fdC := fo 25 Tryz.func55 (λ_ _ => [(4, 2, .qo (ixQ 2)), (4, 4, .q [.ex 0 .str]), (5, 2, .qo (ixQ 2)), (5, 4, .q [.ex 0 .str])]) [] fnrInv fo_i fo_o [] fnr_vc
abbrev ifrC : Con := { ifC with rdc := λ_ _ => True, rmono := λ_ _ _ _ h => h }
def ifZ (x : RqX) : ByteArray := cutA x.r.y 59
def ifrInv (x : RqX) (F : Atom) : Nat → Option Inv := fun
  | 0 => some { X := Nat × Nat, P := λd => d.2 ≤ (ifZ x).size ∧ ∀ j, j < d.2 → tabs (bt (ifZ x) j) = true, mu := λd => (ifZ x).size - d.2, lv := λd => [(1, .pointer (some ⟨d.1, 0, none⟩)), (3, .string ((ifZ x).extract d.2 (ifZ x).size))], st := λd => [F, .cells d.1 (reqL x.r) 45] }
  | 2 => some { X := Nat × Nat, P := λd => run1 (ifZ x) tabs 0 ≤ d.2 ∧ d.2 ≤ (ifZ x).size ∧ ∀ j, d.2 ≤ j → j < (ifZ x).size → tabs (bt (ifZ x) j) = true, mu := λd => d.2, lv := λd => [(1, .pointer (some ⟨d.1, 0, none⟩)), (3, .string ((ifZ x).extract (run1 (ifZ x) tabs 0) d.2))], st := λd => [F, .cells d.1 (reqL x.r) 45] }
  | _ => none
def ifrCut (x : RqX) (F : Atom) : Nat → Option Inv := fun
  | 4 => some { X := Nat, P := λ_ => True, mu := λ_ => 0, lv := λd => [(1, .pointer (some ⟨d, 0, none⟩)), (3, .string ((ifZ x).extract (run1 (ifZ x) tabs 0) (ifZ x).size))], st := λd => [F, .cells d (reqL x.r) 45] }
  | 6 => some { X := Nat, P := λ_ => True, mu := λ_ => 0, lv := λd => [(1, .pointer (some ⟨d, 0, none⟩)), (3, .string (trmV tabs (ifZ x)))], st := λd => [F, .cells d (reqL x.r) 45] }
  | _ => none
theorem trm_end {z : ByteArray} {p : Nat → Bool} {m : Nat} (h1 : run1 z p 0 ≤ m) (h2 : m ≤ z.size) (h3 : ∀ j, m ≤ j → j < z.size → p (bt z j) = true) (h4 : m = run1 z p 0 ∨ p (bt z (m - 1)) = false) : z.extract (run1 z p 0) m = trmV p z := by
  unfold trmV
  have hr := runR_le z p z.size
  obtain ⟨s1, s2⟩ := runR_spec z p z.size
  congr 1
  generalize run1 z p 0 = A at *
  by_cases e : m = A
  · subst e
    by_cases g : m < runR z p z.size
    · have := s2 (by omega)
      rw [h3 (runR z p z.size - 1) (by omega) (by omega)] at this
      cases this
    · omega
  · have h4 : p (bt z (m - 1)) = false := by rcases h4 with h | h; exact absurd h e; exact h
    have : runR z p z.size = m := by
      rcases Nat.lt_trichotomy (runR z p z.size) m with g | g | g
      · have := s1 (m - 1) (by omega) (by omega)
        rw [h4] at this; cases this
      · exact g
      · have := s2 (by omega)
        rw [h3 (runR z p z.size - 1) (by omega) (by omega)] at this
        cases this
    omega
theorem run1_eq {s : ByteArray} {p : Nat → Bool} {k : Nat} (hk : k ≤ s.size) (h1 : ∀ j, j < k → p (bt s j) = true) (h2 : k < s.size → p (bt s k) = false) : run1 s p 0 = k := rv_eq s p (s.size + 1) 0 k (fo_zl _) hk (by omega) (λj _ h => h1 j h) h2
def T128 := fo_C1 52 cuC2 (λw0 => w0.s.size ≤ 1048576)
abbrev q195 (d : Nat × Nat) : Option Addr := some ⟨d.fst, 0, none⟩
abbrev q192 (e0 : Atom) (z : Nat) (e1 : RqX) := [(0, e0), (1, fo_cl z (q0 e1) 45)]
abbrev q153 (F : Atom) (d : Nat × Nat) (x : RqX) := [(0, F), (1, fo_cl d.fst (q0 x) 45)]
def q376 (x : RqX) (d : Nat × Nat) := (0 : Int) ≤ (0 : Int) ∧ 0 < (↑((ifZ x).extract d.snd (ifZ x).size).size : Int)
def T129 (e0 : RqX) (e1 : Atom) (v0 v1 : Value) (ss : St) (mm : Nat) := ∃ (z : Nat × Nat), (z.snd ≤ (ifZ e0).size ∧ ∀(w0 : Nat), w0 < z.snd → tabs (bt (ifZ e0) w0) = true) ∧ (v0 = fo_vp (q195 z) ∧ v1 = fo_vs ((ifZ e0).extract z.snd (ifZ e0).size) ∧ True) ∧ Ent ss (q153 e1 z e0) ∧ (ifZ e0).size - z.snd < mm
def q64 (x : RqX) (d : Nat × Nat) (F : Atom) := ((0 : Int) ≤ (1 : Int) ∧ 1 ≤ (↑((ifZ x).extract d.snd (ifZ x).size).size : Int) ∧ (↑((ifZ x).extract d.snd (ifZ x).size).size : Int) ≤ (↑((ifZ x).extract d.snd (ifZ x).size).size : Int)) ∧ T129 x F (fo_vp (q195 d)) (fo_vs (((ifZ x).extract d.snd (ifZ x).size).extract (Int.toNat (1 : Int)) (↑((ifZ x).extract d.snd (ifZ x).size).size : Int).toNat)) (q153 F d x) ((ifZ x).size - d.snd)
def T130 (e0 : Atom) (e1 : RqX) (v0 v1 : Value) (ss : St) := ∃ (z : Nat), True ∧ (v0 = fo_vp (q13 z) ∧ v1 = fo_vs ((ifZ e1).extract (run1 (ifZ e1) tabs 0) (ifZ e1).size) ∧ True) ∧ Ent ss (q192 e0 z e1)
def q365 (F : Atom) (x : RqX) (d : Nat × Nat) := T130 F x (fo_vp (q195 d)) (fo_vs ((ifZ x).extract d.snd (ifZ x).size)) (q153 F d x)
def q271 (x : RqX) (b : Nat × Nat) := run1 (ifZ x) tabs 0 ≤ b.snd ∧ b.snd ≤ (ifZ x).size ∧ ∀(a : Nat), b.snd ≤ a → a < (ifZ x).size → tabs (bt (ifZ x) a) = true
def q166 (x : RqX) (d : Nat × Nat) := 0 ≤ (↑((ifZ x).extract (run1 (ifZ x) tabs 0) d.snd).size : Int) - 1 ∧ (↑((ifZ x).extract (run1 (ifZ x) tabs 0) d.snd).size : Int) - 1 < (↑((ifZ x).extract (run1 (ifZ x) tabs 0) d.snd).size : Int)
def T131 (e0 : RqX) (e1 : Atom) (v0 v1 : Value) (ss : St) (mm : Nat) := ∃ (z : Nat × Nat), (run1 (ifZ e0) tabs 0 ≤ z.snd ∧ z.snd ≤ (ifZ e0).size ∧ ∀(w0 : Nat), z.snd ≤ w0 → w0 < (ifZ e0).size → tabs (bt (ifZ e0) w0) = true) ∧ (v0 = fo_vp (q195 z) ∧ v1 = fo_vs ((ifZ e0).extract (run1 (ifZ e0) tabs 0) z.snd) ∧ True) ∧ Ent ss (q153 e1 z e0) ∧ z.snd < mm
def q48 (x : RqX) (d : Nat × Nat) (F : Atom) := fo_rI ((↑((ifZ x).extract (run1 (ifZ x) tabs 0) d.snd).size : Int) - 1) ∧ ((0 : Int) ≤ (0 : Int) ∧ 0 ≤ (↑((ifZ x).extract (run1 (ifZ x) tabs 0) d.snd).size : Int) - 1 ∧ (↑((ifZ x).extract (run1 (ifZ x) tabs 0) d.snd).size : Int) - 1 ≤ (↑((ifZ x).extract (run1 (ifZ x) tabs 0) d.snd).size : Int)) ∧ T131 x F (fo_vp (q195 d)) (fo_vs (((ifZ x).extract (run1 (ifZ x) tabs 0) d.snd).extract (Int.toNat (0 : Int)) ((↑((ifZ x).extract (run1 (ifZ x) tabs 0) d.snd).size : Int) - 1).toNat)) (q153 F d x) d.snd
def T132 (e0 : Atom) (e1 : RqX) (v0 v1 : Value) (ss : St) := ∃ (z : Nat), True ∧ (v0 = fo_vp (q13 z) ∧ v1 = fo_vs (trmV tabs (ifZ e1)) ∧ True) ∧ Ent ss (q192 e0 z e1)
def q331 (F : Atom) (x : RqX) (d : Nat × Nat) := T132 F x (fo_vp (q195 d)) (fo_vs ((ifZ x).extract (run1 (ifZ x) tabs 0) d.snd)) (q153 F d x)
theorem ifr_vc (x : RqX) (F : Atom) (hc : ifrC.cond x) (hr : ifrC.rdc x F) :
 ∀(i : Nat), fo_sm i 3 ∧ T128 [fo_vs x.r.y, fo_vc 59] (λh g => ((∃(b : Nat × Nat), (b.snd ≤ (ifZ x).size ∧ ∀(a : Nat), a < b.snd → tabs (bt (ifZ x) a) = true) ∧ (fo_vp (q13 i) = fo_vp (q195 b) ∧ fo_vs (cutA h.s h.c) = fo_vs ((ifZ x).extract b.snd (ifZ x).size) ∧ True) ∧ Ent (q192 F i x) (q153 F b x)) ∧ fo_vA λ(d : Nat × Nat) _ => (d.snd ≤ (ifZ x).size ∧ ∀(a : Nat), a < d.snd → tabs (bt (ifZ x) a) = true) → fo_Bd ((↑((ifZ x).extract d.snd (ifZ x).size).size : Int) > 0) (q376 x d ∧ Br (byteAt ((ifZ x).extract d.snd (ifZ x).size) (0 : Int) == (32 : Int)) (q64 x d F) (q376 x d ∧ Br (byteAt ((ifZ x).extract d.snd (ifZ x).size) (0 : Int) == (9 : Int)) (q64 x d F) (q365 F x d))) (q365 F x d)) ∧ fo_vA λ(f : Nat) _ => True → ((∃(b : Nat × Nat), q271 x b ∧ (fo_vp (q13 f) = fo_vp (q195 b) ∧ fo_vs ((ifZ x).extract (run1 (ifZ x) tabs 0) (ifZ x).size) = fo_vs ((ifZ x).extract (run1 (ifZ x) tabs 0) b.snd) ∧ True) ∧ Ent (q192 F f x) (q153 F b x)) ∧ fo_vA λ(d : Nat × Nat) _ => q271 x d → fo_Bd ((↑((ifZ x).extract (run1 (ifZ x) tabs 0) d.snd).size : Int) > 0) (fo_rI ((↑((ifZ x).extract (run1 (ifZ x) tabs 0) d.snd).size : Int) - 1) ∧ q166 x d ∧ Br (byteAt ((ifZ x).extract (run1 (ifZ x) tabs 0) d.snd) ((↑((ifZ x).extract (run1 (ifZ x) tabs 0) d.snd).size : Int) - 1) == 32) (q48 x d F) (fo_rI ((↑((ifZ x).extract (run1 (ifZ x) tabs 0) d.snd).size : Int) - 1) ∧ q166 x d ∧ Br (byteAt ((ifZ x).extract (run1 (ifZ x) tabs 0) d.snd) ((↑((ifZ x).extract (run1 (ifZ x) tabs 0) d.snd).size : Int) - 1) == 9) (q48 x d F) (q331 F x d))) (q331 F x d)) ∧ fo_vA λ(b : Nat) _ => True → fo_sm b 0 ∧ Br (x.r.m.toList == q319.toList) (Done ifrC x F (fo_rt (fo_vb ((trmV tabs (ifZ x)).toList == q189.toList))) (q192 F b x)) (Done ifrC x F q87 (q192 F b x))) := by
  delta T128 q13 q195 q0 q192 q153 q376 T129 q64 T130 q365 q271 q166 T131 q48 T132 q331 q319 q189 q87 fo_sm fo_rI fo_C1 fo_vc fo_vs fo_vb fo_vp fo_cl fo_Bd fo_rt fo_vA
  obtain ⟨r⟩ := x
  have hc : r.ok := hc
  obtain ⟨Z, hZ⟩ : ∃ Z, Z = cutA r.y 59 := ⟨_, rfl⟩
  have hz : ifZ ⟨r⟩ = Z := hZ.symm
  have hZs : Z.size ≤ 1048576 := by
    rw [hZ]; unfold cutA; rw [fo_se]; have := hc.2.2.2.1; omega
  rw [hz]
  intro b
  refine ⟨⟨rfl, rfl⟩, cu2_ok, rfl, ⟨r.y, 59⟩, rfl, rfl, hc.2.2.2.1, fo_tv, λ_ _ => ⟨⟨⟨(b, 0), ⟨fo_zl _, λj h => absurd h (Nat.not_lt_zero _)⟩, ⟨rfl, by dsimp only; rw [ext_all, hZ], fo_tv⟩, Ent.pick [0, 1] rfl rfl⟩, ?_⟩, ?_⟩⟩
  · rintro ⟨b, k⟩ js ⟨h1, h2⟩
    dsimp only at h1 h2 ⊢
    have hsz : (Z.extract k Z.size).size = Z.size - k := by rw [fo_se]; omega
    have eNul : byteAt (Z.extract k Z.size) 0 = (bt Z k : Int) := by rw [byteAt_bt, Int.toNat_zero, bt_ext', Nat.add_zero]
    have done : (k < Z.size → tabs (bt Z k) = false) → run1 Z tabs 0 = k := λh => run1_eq h1 h2 h
    have go : k < Z.size → tabs (bt Z k) = true → ∃ (y : Nat × Nat), (y.2 ≤ Z.size ∧ ∀ j, j < y.2 → tabs (bt Z j) = true) ∧ (pointer (some ⟨b, 0, none⟩) = pointer (some ⟨y.1, 0, none⟩) ∧ string ((Z.extract k Z.size).extract (Int.toNat 1) ((Z.extract k Z.size).size : Int).toNat) = string (Z.extract y.2 Z.size) ∧ True) ∧ Ent [(0, F), (1, .cells b (reqL r) 45)] [(0, F), (1, .cells y.1 (reqL r) 45)] ∧ Z.size - y.2 < Z.size - k := λhlt h => ⟨(b, k + 1), ⟨hlt, λj hj => if e : j = k then e ▸ h else h2 j (by omega)⟩, ⟨rfl, by rw [hsz, fo_tn, ext_ext Z k _ _ (by omega), show k + (Z.size - k) = Z.size by omega] <;> rfl, fo_tv⟩, Ent.pick [0, 1] rfl rfl, by dsimp only; omega⟩
    rw [hsz] at go ⊢
    rw [eNul]
    have hT : tabs (bt Z k) = (bt Z k == 32 || bt Z k == 9) := rfl
    refine br_decide (λh => ⟨⟨by omega, by omega⟩, br_intro (λc1 => ⟨⟨by omega, by omega, by omega⟩, go (by omega) ?_⟩) (λc1 => ⟨⟨by omega, by omega⟩, br_intro (λc2 => ⟨⟨by omega, by omega, by omega⟩, go (by omega) ?_⟩) (λc2 => ?_)⟩)⟩) (λh => ?_)
    · rw [hT, eqN 32 c1] <;> rfl
    · rw [hT, eqN 9 c2, fo_bot]
    · exact ⟨b, fo_tv, ⟨rfl, by rw [done λ_ => by rw [hT, eqN 32 c1, eqN 9 c2] <;> rfl], fo_tv⟩, Ent.pick [0, 1] rfl rfl⟩
    · exact ⟨b, fo_tv, ⟨rfl, by rw [done λ_ => by omega], fo_tv⟩, Ent.pick [0, 1] rfl rfl⟩
  clear b
  intro b js _
  obtain ⟨A, hA⟩ : ∃ A, A = run1 Z tabs 0 := ⟨_, rfl⟩
  have hAle : A ≤ Z.size := by rw [hA]; exact (rv_le Z tabs _ 0 (fo_zl _)).2
  rw [← hA]
  refine ⟨⟨⟨(b, Z.size), ⟨hAle, fo_nr _, λj h1 h2 => by dsimp only at h1; omega⟩, ⟨rfl, rfl, fo_tv⟩, Ent.pick [0, 1] rfl rfl⟩, ?_⟩, ?_⟩
  · rintro ⟨b, m⟩ js ⟨h1, h2, h3⟩
    dsimp only at h1 h2 h3 ⊢
    have hsz : (Z.extract A m).size = m - A := by rw [fo_se]; omega
    have eNul : A < m → byteAt (Z.extract A m) (((m - A : Nat) : Int) - 1) = (bt Z (m - 1) : Int) := λh => by rw [byteAt_bt, show (((m - A : Nat) : Int) - 1).toNat = m - A - 1 by omega, bt_extr (by omega) h2, show A + (m - A - 1) = m - 1 by omega]
    have done : (m = A ∨ tabs (bt Z (m - 1)) = false) → Z.extract A m = trmV tabs Z := λh => by rw [hA] at h1 h ⊢; exact trm_end h1 h2 h3 h
    have go : A < m → tabs (bt Z (m - 1)) = true → ∃ (y : Nat × Nat), (A ≤ y.2 ∧ y.2 ≤ Z.size ∧ ∀ j, y.2 ≤ j → j < Z.size → tabs (bt Z j) = true) ∧ (pointer (some ⟨b, 0, none⟩) = pointer (some ⟨y.1, 0, none⟩) ∧ string ((Z.extract A m).extract (Int.toNat 0) (((m - A : Nat) : Int) - 1).toNat) = string (Z.extract A y.2) ∧ True) ∧ Ent [(0, F), (1, .cells b (reqL r) 45)] [(0, F), (1, .cells y.1 (reqL r) 45)] ∧ y.2 < m := λhlt h => ⟨(b, m - 1), ⟨by dsimp only; omega, by dsimp only; omega, λj q1 q2 => if e : j = m - 1 then e ▸ h else h3 j (by dsimp only at q1; omega) q2⟩, ⟨rfl, by rw [show (((m - A : Nat) : Int) - 1).toNat = m - A - 1 by omega, ByteArray.extract_extract, show min (A + (m - A - 1)) m = m - 1 by omega] <;> rfl, fo_tv⟩, Ent.pick [0, 1] rfl rfl, by dsimp only; omega⟩
    rw [hsz]
    have hT : tabs (bt Z (m - 1)) = (bt Z (m - 1) == 32 || bt Z (m - 1) == 9) := rfl
    refine br_decide (λh => ?_) (λh => ⟨b, fo_tv, ⟨rfl, by rw [done (.inl (by omega))], fo_tv⟩, Ent.pick [0, 1] rfl rfl⟩)
    have hlt : A < m := by omega
    rw [eNul hlt]
    refine ⟨⟨by omega, by omega⟩, ⟨by omega, by omega⟩, br_intro (λc1 => ⟨⟨by omega, by omega⟩, ⟨by omega, by omega, by omega⟩, go hlt ?_⟩) (λc1 => ⟨⟨by omega, by omega⟩, ⟨by omega, by omega⟩, br_intro (λc2 => ⟨⟨by omega, by omega⟩, ⟨by omega, by omega, by omega⟩, go hlt ?_⟩) (λc2 => ?_)⟩)⟩
    · rw [hT, eqN 32 c1] <;> rfl
    · rw [hT, eqN 9 c2, fo_bot]
    · exact ⟨b, fo_tv, ⟨rfl, by rw [done (.inr (by rw [hT, eqN 32 c1, eqN 9 c2] <;> rfl))], fo_tv⟩, Ent.pick [0, 1] rfl rfl⟩
  clear b
  intro b js _
  have fin : ∀ (S : St) (v : Bool), frmV r = v → Ent S (ofL [F]) → Done ifrC ⟨r⟩ F (returned (bool v)) S := λS v h1 h2 => ⟨(), fo_tv, by subst h1; rfl, h2⟩
  have hfr : frmV r = (bEq r.m sPost && bEq (trmV tabs Z) sForm) := by rw [hZ] <;> rfl
  refine ⟨⟨rfl, rfl⟩, br_intro (λq => ?_) (λq => ?_)⟩
  · have q : bEq r.m sPost = true := q
    exact fin _ _ (by rw [hfr, q, Bool.true_and] <;> rfl) (Ent.pick [0] rfl rfl)
  · have q : bEq r.m sPost = false := q
    exact fin _ _ (by rw [hfr, q] <;> rfl) (Ent.pick [0] rfl rfl)
theorem ifr_ok : fo_k 54 ifrC := fo 59 Tryz.func54 (λ_ _ => [(0, 0, .n 1), (1, 1, .q [.aq 1]), (1, 2, .c cuC2 [] []), (6, 1, .q [.aq 1])]) [] ifrInv ifrCut fo_o [] ifr_vc
end
section
open Go
set_option maxHeartbeats 1000000
def wrF (s : ByteArray) : Nat → Nat → Nat → List ByteArray → List ByteArray
  | 0, _, _, l => l
  | f + 1, fr, i, l =>
    bif decide (i ≤ s.size) then
      bif i == s.size || blk4 (bt s i) then wrF s f (i + 1) (i + 1) (bif decide (i > fr) then l ++ [s.extract fr i] else l)
      else wrF s f fr (i + 1) l
    else l
def wrV (s : ByteArray) : List ByteArray := wrF s (s.size + 2) 0 0 []
abbrev wrdC : Con where
  X := StX
  Y := Row
  args x := [.string x.s]
  pre _ := []
  cond x := x.s.size ≤ 4096
  rdc _ _ := True
  rel x y := IsRow 9 1 (strs (wrV x.s)) y
  val _ y := .returned (.slice y.a y.n y.cap)
  post _ y := [y.A]
structure WrdS where
  fr : Nat
  i : Nat
  f : Nat
  l : List ByteArray
  r : Row
structure WrdS.ok (d : WrdS) (s : ByteArray) : Prop where
  h1 : d.fr ≤ d.i
  h2 : d.i ≤ s.size + 1
  h3 : s.size + 1 < d.i + d.f
  h4 : d.l.length ≤ d.i
  hr : IsRow 9 1 (strs d.l) d.r
  he : wrV s = wrF s d.f d.fr d.i d.l
def wrdInv (x : StX) (F : Atom) : Nat → Option Inv := fun
  | 0 => some { X := WrdS, P := λd => d.ok x.s, mu := λd => x.s.size + 1 - d.i, lv := λd => [(0, .string x.s), (3, .slice d.r.a d.r.n d.r.cap), (4, .int .i64 d.fr), (5, .int .i64 d.i)], st := λd => [F, d.r.A] }
  | _ => none
def wrdG : (T : Type) × (WrdS → T) := ⟨WrdS, λd => d⟩
def wrdCut (x : StX) (F : Atom) : Nat → Option Inv := fun
  | 7 => some { X := WrdS, P := λd => d.ok x.s ∧ d.i ≤ x.s.size, mu := λ_ => 0, lv := λd => [(0, .string x.s), (3, .slice d.r.a d.r.n d.r.cap), (4, .int .i64 d.fr), (5, .int .i64 d.i), (23, .bool (d.i == x.s.size || blk4 (bt x.s d.i)))], st := λd => [F, d.r.A], gh := some wrdG }
  | _ => none
theorem ext_one {s : ByteArray} {i : Nat} (h : i < s.size) : s.extract i (i + 1) = btL [bt s i] := ext_btL s i 1 h
def T133 (e0 : StX) (e1 : WrdS) (e2 : Atom) (v0 v1 v2 v3 : Value) (ss : St) := ∃ (z : WrdS), ((z.ok e0.s ∧ z.i ≤ e0.s.size) ∧ wrdG.snd z = e1) ∧ (fo_vs e0.s = fo_vs e0.s ∧ v0 = fo_vl z.r.a z.r.n z.r.cap ∧ v1 = fo_vi ↑z.fr ∧ v2 = fo_vi ↑z.i ∧ v3 = fo_vb (z.i == e0.s.size || blk4 (bt e0.s z.i)) ∧ True) ∧ Ent ss [(0, e2), (1, z.r.A)]
abbrev q279 (i : WrdS) := fo_vl i.r.a i.r.n i.r.cap
def T134 (e0 : StX) (e1 : Atom) (v0 v1 v2 : Value) (ss : St) (mm : Nat) := ∃ (z : WrdS), z.ok e0.s ∧ (fo_vs e0.s = fo_vs e0.s ∧ v0 = fo_vl z.r.a z.r.n z.r.cap ∧ v1 = fo_vi ↑z.fr ∧ v2 = fo_vi ↑z.i ∧ True) ∧ Ent ss [(0, e1), (1, z.r.A)] ∧ e0.s.size + 1 - z.i < mm
abbrev q320 (f : WrdS) := fo_vi ((f.i : Int) + 1)
theorem wrd_vc (x : StX) (F : Atom) (hc : wrdC.cond x) (hr : wrdC.rdc x F) :
 (∃(a : WrdS), a.ok x.s ∧ (fo_vs x.s = fo_vs x.s ∧ fo_vl none 0 0 = fo_vl a.r.a a.r.n a.r.cap ∧ fo_vi 0 = fo_vi ↑a.fr ∧ fo_vi 0 = fo_vi ↑a.i ∧ True) ∧ Ent [(0, F)] [(0, F), (1, a.r.A)]) ∧ fo_vA λ(i : WrdS) _ => i.ok x.s → fo_Bd ((i.i : Int) ≤ (x.s.size : Int)) (∃(g : WrdS), Br ((i.i : Int) == (x.s.size : Int)) (T133 x g F (q279 i) (fo_vi ↑i.fr) (fo_vi ↑i.i) (fo_vb true) [(0, F), (1, i.r.A)]) (fo_rI ((i.i : Int) + 1) ∧ (0 ≤ (i.i : Int) ∧ (i.i : Int) ≤ (i.i : Int) + 1 ∧ (i.i : Int) + 1 ≤ (x.s.size : Int)) ∧ fo_C0 100 ibC3 [fo_vs (x.s.extract (i.i : Int).toNat ((i.i : Int) + 1).toNat)] (λc b => T133 x g F (q279 i) (fo_vi ↑i.fr) (fo_vi ↑i.i) (fo_vb (blk4 (bt c.s c.i))) [(0, F), (1, i.r.A)])) ∧ fo_vA λ(f : WrdS) _ => ((f.ok x.s ∧ f.i ≤ x.s.size) ∧ wrdG.snd f = g) → Br (f.i == x.s.size || blk4 (bt x.s f.i)) (fo_Bd ((f.i : Int) > (f.fr : Int)) ((0 ≤ (f.fr : Int) ∧ (f.fr : Int) ≤ (f.i : Int) ∧ (f.i : Int) ≤ (x.s.size : Int)) ∧ ∀(d : Nat), T51 (opIn Tryz.f56 8 6) [fo_vl f.r.a f.r.n f.r.cap, fo_vl (q13 d) 1 1] [f.r.A] (fo_aR [(0, F), (1, f.r.A), (9050, fo_cl d [fo_vs (x.s.extract (f.fr : Int).toNat (f.i : Int).toNat)] 9)] [1]) (λc b => fo_rI ((f.i : Int) + 1) ∧ fo_rI ((f.i : Int) + 1) ∧ T134 x F (q332 b) (q320 f) (q320 f) [(0, F), (1, b.A), (9050, fo_cl d [fo_vs (x.s.extract (f.fr : Int).toNat (f.i : Int).toNat)] 9)] (x.s.size + 1 - i.i))) (fo_rI ((f.i : Int) + 1) ∧ fo_rI ((f.i : Int) + 1) ∧ T134 x F (q279 f) (q320 f) (q320 f) [(0, F), (1, f.r.A)] (x.s.size + 1 - i.i))) (fo_rI ((f.i : Int) + 1) ∧ T134 x F (q279 f) (fo_vi ↑f.fr) (q320 f) [(0, F), (1, f.r.A)] (x.s.size + 1 - i.i))) (Done wrdC x F (fo_rt (q279 i)) [(0, F), (1, i.r.A)]) := by
  delta T133 q279 q258 q247 q114 T51 q13 T134 q332 q320 fo_aR fo_rI fo_C0 fo_O4 fo_vi fo_vs fo_vb fo_vl fo_cl fo_Bd fo_rt fo_vA
  obtain ⟨s⟩ := x
  have hs : s.size ≤ 4096 := hc
  dsimp only
  refine ⟨⟨⟨0, 0, s.size + 2, [], nilRow⟩, ⟨fo_nr _, fo_zl _, by dsimp only; omega, fo_nr _, .nil rfl, rfl⟩, ⟨rfl, rfl, rfl, rfl, fo_tv⟩, Ent.pick [0, 999] rfl rfl⟩, ?_⟩
  rintro ⟨fr, i, f, l, r⟩ js ⟨h1, h2, h3, h4, hr, he⟩
  have hok : WrdS.ok ⟨fr, i, f, l, r⟩ s := ⟨h1, h2, h3, h4, hr, he⟩
  dsimp only at h1 h2 h3 h4 hr he ⊢
  obtain ⟨f', rfl⟩ : ∃ f', f = f' + 1 := ⟨f - 1, by omega⟩
  refine br_decide (λh => ⟨⟨fr, i, f' + 1, l, r⟩, ?_, ?_⟩) (λh => ⟨r, ?_, rfl, Ent.pick [1, 0] rfl rfl⟩)
  rotate_right
  · have hw : wrV s = l := by rw [he, wrF, fo_df (show ¬ i ≤ s.size by omega)] <;> rfl
    show IsRow _ _ (strs (wrV s)) r
    rw [hw]; exact hr
  · have hle : i ≤ s.size := by omega
    refine br_intro (λq => ?_) (λq => ?_)
    · have q : ((i : Int) == (s.size : Int)) = true := q
      rw [beq_iff_eq] at q
      exact ⟨⟨fr, i, f' + 1, l, r⟩, ⟨⟨hok, hle⟩, rfl⟩, ⟨rfl, rfl, rfl, rfl, by dsimp only; rw [show (i == s.size) = true by rw [beq_iff_eq]; omega] <;> rfl, fo_tv⟩, Ent.pick [0, 1] rfl rfl⟩
    · have q : ((i : Int) == (s.size : Int)) = false := q
      rw [fo_bf] at q
      have hlt : i < s.size := by omega
      have q1 : (i == s.size) = false := by rw [fo_bf]; omega
      refine ⟨⟨by omega, by omega⟩, ⟨by omega, by omega, by omega⟩, ib12_ok, rfl, ⟨s, i⟩, ?_, rfl, fo_tv, fo_tv, λ_ _ => ⟨⟨fr, i, f' + 1, l, r⟩, ⟨⟨hok, hle⟩, rfl⟩, ⟨rfl, rfl, rfl, rfl, by dsimp only; rw [q1] <;> rfl, fo_tv⟩, Ent.pick [0, 1] rfl rfl⟩⟩
      dsimp only
      rw [show ((i : Int) + 1).toNat = i + 1 by omega, fo_tn, ext_one hlt]
  · rintro ⟨fr2, i2, f2, l2, r2⟩ js ⟨⟨-, hle⟩, hd⟩
    cases hd
    dsimp only at hle ⊢
    refine br_intro (λhq => ?_) (λhq => ?_)
    rotate_left
    · refine ⟨⟨by omega, by omega⟩, ⟨fr, i + 1, f', l, r⟩, ⟨by dsimp only; omega, by dsimp only; omega, by dsimp only; omega, by dsimp only; omega, hr, ?_⟩, ⟨rfl, rfl, rfl, rfl, fo_tv⟩, Ent.pick [0, 1] rfl rfl, by dsimp only; omega⟩
      dsimp only
      rw [he, wrF, fo_dt hle, hq] <;> rfl
    have he2 : wrV s = wrF s f' (i + 1) (i + 1) (bif decide (i > fr) then l ++ [s.extract fr i] else l) := by rw [he, wrF, fo_dt hle, hq] <;> rfl
    have hn := hr.len
    rw [strs_length] at hn
    refine br_decide (λc => ⟨⟨by omega, by omega, by omega⟩, λb => ⟨append_ok (P := Tryz.prog) 1 16 rfl rfl rfl rfl rfl rfl rfl (by decide), rfl, ⟨r, strs l, some ⟨b, 0, none⟩, 1, 1, strs [s.extract fr i]⟩, rfl, rfl, ⟨hr, rfl, λu hu => by rw [List.mem_singleton.1 hu] <;> rfl, by dsimp only; omega, by dsimp only; omega, by simp⟩, ?_, ?_⟩⟩) (λc => ?_)
    · intro a ha
      cases ha
      exact Seg.rest (j := 9050) (by simp) (Seg.cells (λj u hj => by rw [fo_za]; exact hj))
    · rintro y ⟨g1, g2, -⟩
      have g1 : IsRow 9 1 (strs l ++ strs [s.extract fr i]) y := g1
      rw [show strs l ++ strs [s.extract fr i] = strs (l ++ [s.extract fr i]) by unfold strs; rw [List.map_append]] at g1
      rw [fo_dt (show i > fr by omega), fo_ct] at he2
      exact ⟨⟨by omega, by omega⟩, ⟨by omega, by omega⟩, ⟨i + 1, i + 1, f', l ++ [s.extract fr i], y⟩, ⟨fo_nr _, by dsimp only; omega, by dsimp only; omega, by dsimp only; rw [fo_la]; exact Nat.succ_le_succ h4, g1, he2⟩, ⟨rfl, rfl, rfl, rfl, fo_tv⟩, Ent.pick [0, 1] rfl rfl, by dsimp only; omega⟩
    · rw [fo_df (show ¬ i > fr by omega), fo_cf] at he2
      exact ⟨⟨by omega, by omega⟩, ⟨by omega, by omega⟩, ⟨i + 1, i + 1, f', l, r⟩, ⟨fo_nr _, by dsimp only; omega, by dsimp only; omega, by dsimp only; omega, hr, he2⟩, ⟨rfl, rfl, rfl, rfl, fo_tv⟩, Ent.pick [0, 1] rfl rfl, by dsimp only; omega⟩
theorem wrd_ok : fo_k 56 wrdC := fo 37 Tryz.func56 (λ_ _ => [(6, 10, .c ibC3 [] []), (8, 5, .n 9050), (8, 6, .o (apC 9 1 16) [1] [1])]) [] wrdInv wrdCut fo_o [] wrd_vc
end
section
open Go
set_option maxHeartbeats 1000000
abbrev fprC : Con := { fp2C with rdc := λ_ _ => True, rmono := λ_ _ _ _ h => h }
structure PrS where
  fr : Nat
  i : Nat
  f : Nat
  l : List Fld
  r : Row
structure PrS.ok (d : PrS) (s : ByteArray) : Prop where
  hs : s.size ≤ 4096
  h1 : d.fr ≤ d.i
  h2 : d.i ≤ s.size + 1
  h3 : s.size + 1 ≤ d.fr + d.f
  hn : ∀ j, d.fr ≤ j → j < d.i → bt s j ≠ 38
  hl : d.l.length ≤ d.fr
  hr : IsRow 36 2 (fCs d.l) d.r
  hf : d.i = s.size + 1 → d.fr = s.size + 1
  he : fdL (pcV s) [] = (bif decide (d.fr ≤ s.size) then fdL (pcF s d.f d.fr) d.l else some d.l)
structure Pr2 where
  d : PrS
  a : Nat
def fprG : (T : Type) × (Pr2 → T) := ⟨PrS, λe => e.d⟩
def fprPc (s : ByteArray) (d : PrS) : ByteArray := s.extract d.fr d.i
def fprInv (x : StX) (F : Atom) : Nat → Option Inv := fun
  | 0 => some { X := PrS, P := λd => d.ok x.s, mu := λd => x.s.size + 1 - d.i, lv := λd => [(0, .string x.s), (4, .slice d.r.a d.r.n d.r.cap), (5, .int .i64 d.fr), (6, .int .i64 d.i)], st := λd => [F, d.r.A] }
  | 2 => some { X := Pr2, P := λe => (e.d.ok x.s ∧ e.d.i ≤ x.s.size) ∧ (e.d.i < x.s.size → bt x.s e.d.i = 38) ∧ (fprPc x.s e.d).size ≠ 0 ∧ e.a ≤ (fprPc x.s e.d).size ∧ ∀ j, j < e.a → bt (fprPc x.s e.d) j ≠ 61, mu := λe => (fprPc x.s e.d).size - e.a, lv := λe => [(0, .string x.s), (4, .slice e.d.r.a e.d.r.n e.d.r.cap), (5, .int .i64 ((e.d.i : Int) + 1)), (6, .int .i64 e.d.i), (7, .string (fprPc x.s e.d)), (8, .int .i64 e.a)], st := λe => [F, e.d.r.A], gh := some fprG }
  | _ => none
def fprH : (T : Type) × (PrS → T) := ⟨PrS, λd => d⟩
def fprCut (x : StX) (F : Atom) : Nat → Option Inv := fun
  | 9 => some { X := PrS, P := λd => d.ok x.s ∧ d.i ≤ x.s.size ∧ (d.i < x.s.size → bt x.s d.i = 38), mu := λ_ => 0, lv := λd => [(0, .string x.s), (4, .slice d.r.a d.r.n d.r.cap), (5, .int .i64 d.fr), (6, .int .i64 d.i)], st := λd => [F, d.r.A], gh := some fprH }
  | 15 => some { X := PrS, P := λd => d.ok x.s ∧ d.i ≤ x.s.size ∧ (d.i < x.s.size → bt x.s d.i = 38) ∧ (fprPc x.s d).size ≠ 0, mu := λ_ => 0, lv := λd => [(0, .string x.s), (4, .slice d.r.a d.r.n d.r.cap), (5, .int .i64 ((d.i : Int) + 1)), (6, .int .i64 d.i), (7, .string (fprPc x.s d)), (8, .int .i64 (atV (fprPc x.s d) 61 0 : Nat))], st := λd => [F, d.r.A], gh := some fprH }
  | _ => none
theorem pcF_nil (s : ByteArray) (f i : Nat) (l : List Fld) : (match (bif decide (i < s.size) then pcF s f (i + 1) else []), l with | r, l => fdL r l) = (bif decide (i + 1 ≤ s.size) then fdL (pcF s f (i + 1)) l else some l) := by
  by_cases h : i < s.size
  · rw [fo_dt h, fo_dt (show i + 1 ≤ s.size by omega)] <;> rfl
  · rw [fo_df h, fo_df (show ¬ i + 1 ≤ s.size by omega)] <;> rfl
theorem PrS.ok.step {s : ByteArray} {fr i f : Nat} {l : List Fld} {r : Row} (h : PrS.ok ⟨fr, i, f + 1, l, r⟩ s) (hi : i ≤ s.size) (hb : i < s.size → bt s i = 38) : fdL (pcV s) [] = fdL (s.extract fr i :: bif decide (i < s.size) then pcF s f (i + 1) else []) l := by
  have ha : atV s 38 fr = i := at_eq s 38 fr i h.h1 hi h.hn hb
  have h1 := h.h1
  have he := h.he
  dsimp only at he h1
  rw [fo_dt (show fr ≤ s.size by omega), fo_ct, pcF, ha] at he
  exact he
theorem PrS.ok.next {s : ByteArray} {fr i f : Nat} {l m : List Fld} {r y : Row} (h : PrS.ok ⟨fr, i, f + 1, l, r⟩ s) (hi : i ≤ s.size) (hm : m.length ≤ l.length + 1) (hy : IsRow 36 2 (fCs m) y) (he : fdL (pcV s) [] = fdL (bif decide (i < s.size) then pcF s f (i + 1) else []) m) : PrS.ok ⟨i + 1, i + 1, f, m, y⟩ s where
  hs := h.hs
  h1 := fo_nr _
  h2 := by have := h.h2; dsimp only at this ⊢; omega
  h3 := by have := h.h3; have := h.h1; dsimp only at *; omega
  hn := λj q1 q2 => by dsimp only at q1 q2; omega
  hl := by have := h.hl; have := h.h1; dsimp only at *; omega
  hr := hy
  hf := λq => q
  he := he.trans (pcF_nil s f i m)
theorem min_if (z a : Nat) : (if (z : Int) < (a : Int) + 1 then (z : Int) else (a : Int) + 1) = ((min (a + 1) z : Nat) : Int) := by
  split <;> omega
abbrev q340 (e1 : Atom) (z : PrS) := [(0, e1), (1, z.r.A)]
def T135 (e0 : StX) (e1 : Atom) (v0 v1 v2 : Value) (ss : St) (mm : Nat) := ∃ (z : PrS), z.ok e0.s ∧ (fo_vs e0.s = fo_vs e0.s ∧ v0 = fo_vl z.r.a z.r.n z.r.cap ∧ v1 = fo_vi ↑z.fr ∧ v2 = fo_vi ↑z.i ∧ True) ∧ Ent ss (q340 e1 z) ∧ e0.s.size + 1 - z.i < mm
abbrev q333 (p : PrS) := fo_vl p.r.a p.r.n p.r.cap
abbrev q317 (p : PrS) := fo_vi ((p.i : Int) + 1)
def T136 (e0 : StX) (e1 : PrS) (e2 : Atom) (v0 v1 v2 : Value) (ss : St) := ∃ (z : PrS), ((z.ok e0.s ∧ z.i ≤ e0.s.size ∧ (z.i < e0.s.size → bt e0.s z.i = 38)) ∧ fprH.snd z = e1) ∧ (fo_vs e0.s = fo_vs e0.s ∧ v0 = fo_vl z.r.a z.r.n z.r.cap ∧ v1 = fo_vi ↑z.fr ∧ v2 = fo_vi ↑z.i ∧ True) ∧ Ent ss (q340 e2 z)
def q81 (b : Pr2) (x : StX) (e : PrS) := ((b.d.ok x.s ∧ b.d.i ≤ x.s.size) ∧ (b.d.i < x.s.size → bt x.s b.d.i = 38) ∧ (fprPc x.s b.d).size ≠ 0 ∧ b.a ≤ (fprPc x.s b.d).size ∧ ∀(a : Nat), a < b.a → bt (fprPc x.s b.d) a ≠ 61) ∧ fprG.snd b = e
def q330 (z : PrS) (e0 : StX) (e1 : PrS) := (z.ok e0.s ∧ z.i ≤ e0.s.size ∧ (z.i < e0.s.size → bt e0.s z.i = 38) ∧ (fprPc e0.s z).size ≠ 0) ∧ fprH.snd z = e1
def T137 (e0 : StX) (e1 : PrS) (e2 : Atom) (v0 v1 v2 v3 v4 : Value) (ss : St) := ∃ (z : PrS), q330 z e0 e1 ∧ (fo_vs e0.s = fo_vs e0.s ∧ v0 = fo_vl z.r.a z.r.n z.r.cap ∧ v1 = fo_vi ((z.i : Int) + 1) ∧ v2 = fo_vi ↑z.i ∧ v3 = fo_vs (fprPc e0.s z) ∧ v4 = fo_vi (↑(atV (fprPc e0.s z) 61 0) : Int) ∧ True) ∧ Ent ss (q340 e2 z)
def q229 (x : StX) (k : PrS) (F : Atom) (d : Pr2) := T137 x k F (fo_vl d.d.r.a d.d.r.n d.d.r.cap) (fo_vi ((d.d.i : Int) + 1)) (fo_vi ↑d.d.i) (fo_vs (fprPc x.s d.d)) (fo_vi ↑d.a) [(0, F), (1, d.d.r.A)]
def T138 := fo_C1 99 saC2 q135
theorem fpr_vc (x : StX) (F : Atom) (hc : fprC.cond x) (hr : fprC.rdc x F) :
 fo_Bd ((x.s.size : Int) > 4096) (Done fprC x F q366 [(0, F)]) ((∃(a : PrS), a.ok x.s ∧ (fo_vs x.s = fo_vs x.s ∧ fo_vl none 0 0 = fo_vl a.r.a a.r.n a.r.cap ∧ fo_vi 0 = fo_vi ↑a.fr ∧ fo_vi 0 = fo_vi ↑a.i ∧ True) ∧ Ent [(0, F)] (q340 F a)) ∧ fo_vA λ(p : PrS) _ => p.ok x.s → fo_Bd ((p.i : Int) ≤ (x.s.size : Int)) (∃(n : PrS), fo_Bd ((p.i : Int) < (x.s.size : Int)) ((0 ≤ (p.i : Int) ∧ (p.i : Int) < (x.s.size : Int)) ∧ Br (byteAt x.s (p.i : Int) != 38) (fo_rI ((p.i : Int) + 1) ∧ T135 x F (q333 p) (fo_vi ↑p.fr) (q317 p) (q340 F p) (x.s.size + 1 - p.i)) (T136 x n F (q333 p) (fo_vi ↑p.fr) (fo_vi ↑p.i) (q340 F p))) (T136 x n F (q333 p) (fo_vi ↑p.fr) (fo_vi ↑p.i) (q340 F p)) ∧ fo_vA λ(m : PrS) _ => ((m.ok x.s ∧ m.i ≤ x.s.size ∧ (m.i < x.s.size → bt x.s m.i = 38)) ∧ fprH.snd m = n) → (0 ≤ (m.fr : Int) ∧ (m.fr : Int) ≤ (m.i : Int) ∧ (m.i : Int) ≤ (x.s.size : Int)) ∧ fo_rI ((m.i : Int) + 1) ∧ Br ((x.s.extract (m.fr : Int).toNat (m.i : Int).toNat).toList == q34.toList) (fo_rI ((m.i : Int) + 1) ∧ T135 x F (q333 m) (q317 m) (q317 m) (q340 F m) (x.s.size + 1 - p.i)) (∃(k : PrS), (∃(e : PrS), (∃(b : Pr2), q81 b x e ∧ (fo_vs x.s = fo_vs x.s ∧ fo_vl m.r.a m.r.n m.r.cap = fo_vl b.d.r.a b.d.r.n b.d.r.cap ∧ fo_vi ((m.i : Int) + 1) = fo_vi ((b.d.i : Int) + 1) ∧ fo_vi ↑m.i = fo_vi ↑b.d.i ∧ fo_vs (x.s.extract (m.fr : Int).toNat (m.i : Int).toNat) = fo_vs (fprPc x.s b.d) ∧ fo_vi 0 = fo_vi ↑b.a ∧ True) ∧ Ent (q340 F m) [(0, F), (1, b.d.r.A)]) ∧ fo_vA λ(d : Pr2) _ => q81 d x e → fo_Bd ((d.a : Int) < (↑(fprPc x.s d.d).size : Int)) ((0 ≤ (d.a : Int) ∧ (d.a : Int) < (↑(fprPc x.s d.d).size : Int)) ∧ Br (byteAt (fprPc x.s d.d) (d.a : Int) != 61) (fo_rI ((d.a : Int) + 1) ∧ ∃(b : Pr2), q81 b x e ∧ (fo_vs x.s = fo_vs x.s ∧ fo_vl d.d.r.a d.d.r.n d.d.r.cap = fo_vl b.d.r.a b.d.r.n b.d.r.cap ∧ fo_vi ((d.d.i : Int) + 1) = fo_vi ((b.d.i : Int) + 1) ∧ fo_vi ↑d.d.i = fo_vi ↑b.d.i ∧ fo_vs (fprPc x.s d.d) = fo_vs (fprPc x.s b.d) ∧ fo_vi ((d.a : Int) + 1) = fo_vi ↑b.a ∧ True) ∧ Ent [(0, F), (1, d.d.r.A)] [(0, F), (1, b.d.r.A)] ∧ (fprPc x.s b.d).size - b.a < (fprPc x.s d.d).size - d.a) (q229 x k F d)) (q229 x k F d)) ∧ fo_vA λ(j : PrS) _ => q330 j x k → ((0 : Int) ≤ (0 : Int) ∧ 0 ≤ (↑(atV (fprPc x.s j) 61 0) : Int) ∧ (↑(atV (fprPc x.s j) 61 0) : Int) ≤ (↑(fprPc x.s j).size : Int)) ∧ T138 [fo_vs ((fprPc x.s j).extract (Int.toNat (0 : Int)) (↑(atV (fprPc x.s j) 61 0) : Int).toNat)] (λh g => fo_rI ((↑(atV (fprPc x.s j) 61 0) : Int) + 1) ∧ ((0 ≤ if (↑(fprPc x.s j).size : Int) < (↑(atV (fprPc x.s j) 61 0) : Int) + 1 then (↑(fprPc x.s j).size : Int) else (↑(atV (fprPc x.s j) 61 0) : Int) + 1) ∧ (if (↑(fprPc x.s j).size : Int) < (↑(atV (fprPc x.s j) 61 0) : Int) + 1 then (↑(fprPc x.s j).size : Int) else (↑(atV (fprPc x.s j) 61 0) : Int) + 1) ≤ (↑(fprPc x.s j).size : Int) ∧ (↑(fprPc x.s j).size : Int) ≤ (↑(fprPc x.s j).size : Int)) ∧ T138 [fo_vs ((fprPc x.s j).extract (if (↑(fprPc x.s j).size : Int) < (↑(atV (fprPc x.s j) 61 0) : Int) + 1 then (↑(fprPc x.s j).size : Int) else (↑(atV (fprPc x.s j) 61 0) : Int) + 1).toNat (↑(fprPc x.s j).size : Int).toNat)] (λf e => Br (!(sdV h.s).isSome) (Done fprC x F q180 (q340 F j)) (Br (!(sdV f.s).isSome) (Done fprC x F q180 (q340 F j)) (∀(d : Nat), T29 (opIn Tryz.f53 19 5) [fo_vl j.r.a j.r.n j.r.cap, fo_vl (q13 d) 1 1] [j.r.A] (fo_aR [(0, F), (1, j.r.A), (20040, fo_cl d (q205 h f) 36)] [1]) (λc b => fo_rI ((j.i : Int) + 1) ∧ T135 x F (q332 b) (q317 j) (q317 j) [(0, F), (1, b.A), (20040, fo_cl d (q205 h f) 36)] (x.s.size + 1 - p.i)))))))) (fo_Bd ((p.r.n : Int) > 32) (Done fprC x F q367 (q340 F p)) (Done fprC x F (fo_rt (tuple ⟨[fo_vl p.r.a p.r.n p.r.cap, fo_vi 0]⟩)) (q340 F p)))) := by
  delta q366 q340 T135 q333 q317 T136 q34 q81 q330 T137 q229 q135 T138 q180 q258 q247 q114 T29 q13 q205 q332 q367 fo_aR fo_rI fo_C1 fo_O4 fo_vi fo_vs fo_vl fo_cl fo_Bd fo_rt fo_vA
  obtain ⟨s⟩ := x
  dsimp only
  have no : ∀ (S : St) (e : Int), fdV s = none → e ≠ 0 → Ent S (ofL [.emp, F]) → Done fprC ⟨s⟩ F (returned (tuple #[slice none 0 0, int .i64 e])) S := λS e h1 h2 h3 => ⟨⟨⟨[], nilRow⟩, e⟩, .inr ⟨h2, h1, rfl⟩, rfl, h3⟩
  refine br_decide (λh => no _ 2 ?_ (by decide) (Ent.pick [5, 0] rfl rfl)) (λh => ?_)
  · unfold fdV
    rw [fo_dt (show s.size > 4096 by omega)] <;> rfl
  have hs : s.size ≤ 4096 := by omega
  have hfd : fdV s = (match fdL (pcV s) [] with | some l => bif decide (l.length > 32) then none else some l | none => none) := by
    unfold fdV
    rw [fo_df (show ¬ s.size > 4096 by omega)] <;> rfl
  refine ⟨⟨⟨0, 0, s.size + 1, [], nilRow⟩, ⟨hs, fo_nr _, fo_zl _, by dsimp only; omega, λj _ q => absurd q (Nat.not_lt_zero _), fo_nr _, .nil rfl, λq => by dsimp only at q; omega, ?_⟩, ⟨rfl, rfl, rfl, rfl, fo_tv⟩, Ent.pick [0, 999] rfl rfl⟩, ?_⟩
  · dsimp only
    rw [fo_dt (fo_zl s.size), fo_ct]
    unfold pcV
    rfl
  rintro ⟨fr, i, f, l, r⟩ js hok
  have h1 := hok.h1
  have h2 := hok.h2
  have h3 := hok.h3
  have hr := hok.hr
  dsimp only at h1 h2 h3 hr ⊢
  have eNul : byteAt s (i : Int) = (bt s i : Int) := by rw [byteAt_bt, fo_tn]
  rw [eNul]
  have hn := hr.len
  rw [fCs_length] at hn
  refine br_decide (λh => ?_) (λh => ?_)
  rotate_left
  · have hi : i = s.size + 1 := by omega
    have hfr := hok.hf hi
    have he := hok.he
    dsimp only at hfr he
    rw [fo_df (show ¬ fr ≤ s.size by omega), fo_cf] at he
    rw [he] at hfd
    dsimp only at hfd
    refine br_decide (λc => no _ 4 ?_ (by decide) (Ent.pick [5, 0] rfl rfl)) (λc => ⟨⟨⟨l, r⟩, 0⟩, .inl ⟨rfl, ?_, hr⟩, rfl, Ent.pick [1, 0] rfl rfl⟩)
    · rw [hfd, fo_dt (show l.length > 32 by omega)] <;> rfl
    · rw [hfd, fo_df (show ¬ l.length > 32 by omega)] <;> rfl
  have hle : i ≤ s.size := by omega
  obtain ⟨f', rfl⟩ : ∃ f', f = f' + 1 := ⟨f - 1, by omega⟩
  refine ⟨⟨fr, i, f' + 1, l, r⟩, ?_, ?_⟩
  · refine br_decide (λc => ⟨⟨by omega, c⟩, br_intro (λq => ?_) (λq => ?_)⟩) (λc => ?_)
    · have q : ((bt s i : Int) != 38) = true := q
      have q := bne_iff_ne.1 q
      refine ⟨⟨by omega, by omega⟩, ⟨fr, i + 1, f' + 1, l, r⟩, ⟨hs, by dsimp only; omega, by dsimp only; omega, h3, λj q1 q2 => ?_, hok.hl, hr, λq => by dsimp only at q; omega, hok.he⟩, ⟨rfl, rfl, rfl, rfl, fo_tv⟩, Ent.pick [0, 1] rfl rfl, by dsimp only; omega⟩
      dsimp only at q1 q2
      by_cases e : j = i
      · subst e; omega
      · exact hok.hn j q1 (by dsimp only; omega)
    · have q : ((bt s i : Int) != 38) = false := q
      have q : (bt s i : Int) = 38 := by simpa using q
      exact ⟨⟨fr, i, f' + 1, l, r⟩, ⟨⟨hok, hle, λ_ => by dsimp only; omega⟩, rfl⟩, ⟨rfl, rfl, rfl, rfl, fo_tv⟩, Ent.pick [0, 1] rfl rfl⟩
    · exact ⟨⟨fr, i, f' + 1, l, r⟩, ⟨⟨hok, hle, λq => by dsimp only at q; omega⟩, rfl⟩, ⟨rfl, rfl, rfl, rfl, fo_tv⟩, Ent.pick [0, 1] rfl rfl⟩
  rintro ⟨_, _, _, _, _⟩ js ⟨⟨-, -, hb⟩, hd⟩
  cases hd
  dsimp only at hb ⊢
  have hst := hok.step hle hb
  obtain ⟨p, hp⟩ : ∃ p, p = s.extract fr i := ⟨_, rfl⟩
  have hpc : fprPc s ⟨fr, i, f' + 1, l, r⟩ = p := hp.symm
  have hps : p.size = i - fr := by rw [hp, fo_se]; omega
  rw [← hp] at hst
  rw [fo_tn, fo_tn, ← hp]
  refine ⟨⟨by omega, by omega, by omega⟩, ⟨by omega, by omega⟩, br_intro (λq => ?_) (λq => ?_)⟩
  · have q : (p.toList == (ByteArray.mk #[]).toList) = true := q
    rw [str_e0] at q
    rw [fdL, q, fo_ct] at hst
    exact ⟨⟨by omega, by omega⟩, ⟨i + 1, i + 1, f', l, r⟩, hok.next hle (Nat.le_succ _) hr hst, ⟨rfl, rfl, rfl, rfl, fo_tv⟩, Ent.pick [0, 1] rfl rfl, by dsimp only; omega⟩
  have q : (p.toList == (ByteArray.mk #[]).toList) = false := q
  rw [str_e0] at q
  have hp0 : p.size ≠ 0 := fo_bf.1 q
  rw [fdL, q, fo_cf] at hst
  refine ⟨⟨fr, i, f' + 1, l, r⟩, ⟨⟨fr, i, f' + 1, l, r⟩, ⟨⟨⟨fr, i, f' + 1, l, r⟩, 0⟩, ⟨⟨⟨hok, hle⟩, hb, by rw [hpc]; exact hp0, fo_zl _, λj q => absurd q (Nat.not_lt_zero _)⟩, rfl⟩, ⟨rfl, rfl, rfl, rfl, by rw [hpc], rfl, fo_tv⟩, Ent.pick [0, 1] rfl rfl⟩, ?_⟩, ?_⟩
  · rintro ⟨_, a⟩ js ⟨⟨-, -, -, ha, hna⟩, hd⟩
    cases hd
    dsimp only at ha hna ⊢
    rw [hpc] at ha hna ⊢
    have e1 : byteAt p (a : Int) = (bt p a : Int) := by rw [byteAt_bt, fo_tn]
    rw [e1]
    have out : (a < p.size → bt p a = 61) → atV p 61 0 = a := λh => at_eq p 61 0 a (fo_zl _) ha (λj _ q => hna j q) h
    refine br_decide (λc => ⟨⟨by omega, c⟩, br_intro (λq => ?_) (λq => ?_)⟩) (λc => ?_)
    · have q : ((bt p a : Int) != 61) = true := q
      have q := bne_iff_ne.1 q
      exact ⟨⟨by omega, by omega⟩, ⟨⟨fr, i, f' + 1, l, r⟩, a + 1⟩, ⟨⟨⟨hok, hle⟩, hb, by rw [hpc]; exact hp0, by rw [hpc]; dsimp only; omega, λj q1 => by rw [hpc]; exact if e : j = a then by subst e; omega else hna j (by dsimp only at q1; omega)⟩, rfl⟩, ⟨rfl, rfl, rfl, rfl, by rw [hpc], rfl, fo_tv⟩, Ent.pick [0, 1] rfl rfl, by rw [hpc]; dsimp only; omega⟩
    · have q : ((bt p a : Int) != 61) = false := q
      have q : (bt p a : Int) = 61 := by simpa using q
      exact ⟨⟨fr, i, f' + 1, l, r⟩, ⟨⟨hok, hle, hb, by rw [hpc]; exact hp0⟩, rfl⟩, ⟨rfl, rfl, rfl, rfl, by rw [hpc], by rw [hpc, out λ_ => by omega], fo_tv⟩, Ent.pick [0, 1] rfl rfl⟩
    · exact ⟨⟨fr, i, f' + 1, l, r⟩, ⟨⟨hok, hle, hb, by rw [hpc]; exact hp0⟩, rfl⟩, ⟨rfl, rfl, rfl, rfl, by rw [hpc], by rw [hpc, out λ_ => by omega], fo_tv⟩, Ent.pick [0, 1] rfl rfl⟩
  rintro ⟨_, _, _, _, _⟩ js ⟨-, hd⟩
  cases hd
  dsimp only
  rw [hpc, min_if]
  have hat := (at_spec p 61 0 (fo_zl _)).2.1
  have hA : p.extract (Int.toNat 0) ((atV p 61 0 : Nat) : Int).toNat = cutA p 61 := rfl
  have hB : p.extract ((min (atV p 61 0 + 1) p.size : Nat) : Int).toNat (p.size : Int).toNat = cutB p 61 := rfl
  rw [hA, hB]
  have hca : (cutA p 61).size ≤ 1048576 := by unfold cutA; rw [fo_se]; omega
  have hcb : (cutB p 61).size ≤ 1048576 := by unfold cutB; rw [fo_se]; omega
  refine ⟨⟨by omega, by omega, by omega⟩, sa2_ok, rfl, ⟨cutA p 61⟩, rfl, rfl, hca, fo_tv, λ_ _ => ⟨⟨by omega, by omega⟩, ⟨by omega, by omega, by omega⟩, sa2_ok, rfl, ⟨cutB p 61⟩, rfl, rfl, hcb, fo_tv, λ_ _ => ?_⟩⟩
  dsimp only
  revert hst
  generalize sdV (cutA p 61) = u
  generalize sdV (cutB p 61) = v
  intro hst
  refine br_intro (λe1 => no _ 210 ?_ (by decide) (Ent.pick [5, 0] rfl rfl)) (λe1 => br_intro (λe2 => no _ 210 ?_ (by decide) (Ent.pick [5, 0] rfl rfl)) (λe2 => ?_))
  · cases u with
    | none => rw [hfd, hst]
    | some n => cases e1
  · cases v with
    | none => rw [hfd, hst]; cases u <;> rfl
    | some n => cases e2
  cases u with
  | none => cases e1
  | some n =>
    cases v with
    | none => cases e2
    | some w =>
      dsimp only at hst
      have hl := hok.hl
      dsimp only at hl
      intro d
      refine ⟨append_ok (P := Tryz.prog) 2 32 rfl rfl rfl rfl rfl rfl rfl (by decide), rfl, ⟨r, fCs l, some ⟨d, 0, none⟩, 1, 1, fCs [(n, w)]⟩, rfl, rfl, ⟨hr, rfl, λ_ h => fCs_one h, by dsimp only; omega, by dsimp only; omega, by simp⟩, ?_, ?_⟩
      · intro a ha
        cases ha
        exact Seg.rest (j := 20040) (by simp) (Seg.cells (λj u hj => by rw [fo_za]; exact hj))
      · rintro y ⟨g1, g2, -⟩
        rw [← fCs_app] at g1
        exact ⟨⟨by omega, by omega⟩, ⟨i + 1, i + 1, f', l ++ [(n, w)], y⟩, hok.next hle (by rw [fo_la]; exact fo_nr _) g1 hst, ⟨rfl, rfl, rfl, rfl, fo_tv⟩, Ent.pick [0, 1] rfl rfl, by dsimp only; omega⟩
theorem fpr_ok : fo_k 53 fprC := fo 86 Tryz.func53 (λ_ _ => [(15, 3, .c saC2 [] []), (16, 7, .c saC2 [] []), (19, 4, .n 20040), (19, 5, .o (apC 36 2 32) [1] [1])]) [] fprInv fprCut fo_o [] fpr_vc
end
section
open Go
set_option maxHeartbeats 1000000
def atrV (w : ByteArray) (i : Nat) : Int := bif decide (i < w.size / 2) then (unitN w i : Int) else -1
abbrev atrC : Con where
  X := CrX
  Y := Unit
  args x := [.string x.s, .int .i64 x.i]
  pre _ := []
  cond x := x.s.size ≤ 1048576 ∧ x.i ≤ 1048576
  rdc _ _ := True
  rel _ _ := True
  val x _ := .returned (.int .i64 (atrV x.s x.i))
  post _ _ := []
def T139 (oo : Oper) (aa : List Value) (k0 : Nat → Prop) := QOpOk Tryz.prog oo (dvN 2) ∧ ∃ (z : Nat), aa = [fo_vi ↑z, fo_vi (↑(2 : Nat) : Int)] ∧ (z < 4611686018427387904 ∧ 0 < 2) ∧ k0 z
theorem atr_vc (x : CrX) (F : Atom) (hc : atrC.cond x) (hr : atrC.rdc x F) :
 T139 (opIn Tryz.f76 1 6) [fo_vi ↑x.s.size, fo_vi 2] (λa => fo_rI ((↑(a / 2) : Int) - 1) ∧ fo_Bd ((x.i : Int) > (↑(a / 2) : Int) - 1) (Done atrC x F q79 [(0, F)]) (true = true ∧ fo_rI (2 * (x.i : Int)) ∧ ((0 : Int) ≤ 2 * (x.i : Int) ∧ 2 * (x.i : Int) < (x.s.size : Int)) ∧ fo_rI (byteAt x.s (2 * (x.i : Int))) ∧ fo_rI (byteAt x.s (2 * (x.i : Int)) * 256) ∧ fo_rI (2 * (x.i : Int)) ∧ fo_rI (2 * (x.i : Int) + 1) ∧ ((0 : Int) ≤ 2 * (x.i : Int) + 1 ∧ 2 * (x.i : Int) + 1 < (x.s.size : Int)) ∧ fo_rI (byteAt x.s (2 * (x.i : Int) + 1)) ∧ fo_rI (byteAt x.s (2 * (x.i : Int)) * 256 + byteAt x.s (2 * (x.i : Int) + 1)) ∧ Done atrC x F (fo_rt (fo_vi (byteAt x.s (2 * (x.i : Int)) * 256 + byteAt x.s (2 * (x.i : Int) + 1)))) [(0, F)])) := by
  delta T139 q79 fo_rI fo_vi fo_Bd fo_rt
  obtain ⟨w, i⟩ := x
  obtain ⟨hw, hi⟩ := hc
  dsimp only at hw hi ⊢
  have eNul : byteAt w (2 * (i : Int)) = (bt w (2 * i) : Int) := by rw [byteAt_bt, show (2 * (i : Int)).toNat = 2 * i by omega]
  have e1 : byteAt w (2 * (i : Int) + 1) = (bt w (2 * i + 1) : Int) := by rw [byteAt_bt, show (2 * (i : Int) + 1).toNat = 2 * i + 1 by omega]
  have b0 := bt_lt' w (2 * i)
  have b1 := bt_lt' w (2 * i + 1)
  have fin : ∀ v : Int, atrV w i = v → Done atrC ⟨w, i⟩ F (returned (int .i64 v)) [(0, F)] := λv h => ⟨(), fo_tv, by subst h; rfl, Ent.pick [0] rfl rfl⟩
  refine ⟨dvn_ok rfl, w.size, rfl, ⟨by omega, by decide⟩, ⟨by omega, by omega⟩, br_decide (λh => fin (-1) ?_) (λh => ?_)⟩
  · unfold atrV; rw [fo_df (show ¬ i < w.size / 2 by omega)] <;> rfl
  · rw [eNul, e1]
    refine ⟨rfl, ⟨by omega, by omega⟩, ⟨by omega, by omega⟩, ⟨by omega, by omega⟩, ⟨by omega, by omega⟩, ⟨by omega, by omega⟩, ⟨by omega, by omega⟩, ⟨by omega, by omega⟩, ⟨by omega, by omega⟩, ⟨by omega, by omega⟩, fin _ ?_⟩
    unfold atrV unitN; rw [fo_dt (show i < w.size / 2 by omega)] <;> rfl
theorem atr_ok : fo_k 76 atrC := fo 28 Tryz.func76 (λ_ _ => [(1, 6, .qo (dvN 2))]) [] fo_i fo_i fo_o [] atr_vc
theorem srcd_n {F : Atom} {j b : Nat} {l : List Nat} {t : TypeId} (hj : j ≠ 0) : Srcd (.pred (rest [(0, F), (j, Atom.cells b (u8s l) t)] [])) (some ⟨b, 0, none⟩) (u8s l) := λa ha => by
  cases ha
  refine Seg.rest (j := j) (by simp) ?_
  have e : gt [(0, F), (j, Atom.cells b (u8s l) t)] j = Atom.cells b (u8s l) t := by
    show lkp [(0, F), (j, Atom.cells b (u8s l) t)] j .emp = _
    rw [lkp, beq_ne hj, fo_cf, lkp, Nat.beq_refl, fo_ct]
  rw [e]
  exact Seg.cells (λj u hj => by rw [fo_za]; exact hj)
structure ByX2 where
  c : Nat
abbrev bysC : Con where
  X := ByX2
  Y := Unit
  args x := [.int .i64 x.c]
  pre _ := []
  cond x := Sc x.c
  rdc _ _ := True
  rel _ _ := True
  val x _ := .returned (.string (Utf8.encode (x.c : Int)))
  post _ _ := []
def T140 (oo : Oper) (aa : List Value) (k0 : Nat → Prop) := QOpOk Tryz.prog oo (dvN 64) ∧ ∃ (z : Nat), aa = [fo_vi ↑z, fo_vi (↑(64 : Nat) : Int)] ∧ (z < 4611686018427387904 ∧ 0 < 64) ∧ k0 z
abbrev q270 (x : ByX2) : List Value := [fo_vi ↑x.c, fo_vi 64]
def T141 (oo : Oper) (aa : List Value) (k0 : Nat → Prop) := QOpOk Tryz.prog oo (mdN 64) ∧ ∃ (z : Nat), aa = [fo_vi ↑z, fo_vi (↑(64 : Nat) : Int)] ∧ 0 < 64 ∧ k0 z
def q110 (d : Nat) := (0 : Int) ≤ 128 + (↑(d % 64) : Int) ∧ 128 + (↑(d % 64) : Int) ≤ 255
def T142 (oo : Oper) (aa : List Value) (k0 : Nat → Prop) := QOpOk Tryz.prog oo (dvN 4096) ∧ ∃ (z : Nat), aa = [fo_vi ↑z, fo_vi (↑(4096 : Nat) : Int)] ∧ (z < 4611686018427387904 ∧ 0 < 4096) ∧ k0 z
abbrev q357 (g e d : Nat) : List Value := [fo_vc (224 + (↑(g / 4096) : Int)), fo_vc (128 + (↑(e % 64) : Int)), fo_vc (128 + (↑(d % 64) : Int))]
abbrev q303 (i g e d : Nat) : List Value := [fo_vc (240 + (↑(i / 262144) : Int)), fo_vc (128 + (↑(g % 64) : Int)), fo_vc (128 + (↑(e % 64) : Int)), fo_vc (128 + (↑(d % 64) : Int))]
theorem bys_vc (x : ByX2) (F : Atom) (hc : bysC.cond x) (hr : bysC.rdc x F) :
 fo_Bd ((x.c : Int) < 128) ((0 ≤ (x.c : Int) ∧ (x.c : Int) ≤ 255) ∧ ∀(c : Nat), T4 (opIn Tryz.f77 2 3) [fo_vl (q13 c) 1 1] (fo_aR [(0, F), (3020, fo_cl c [fo_vc ↑x.c] 5)] []) (λb a => Done bysC x F (q248 b) [(0, F), (3020, fo_cl c [fo_vc ↑x.c] 5)])) (fo_Bd ((x.c : Int) < 2048) (T140 (opIn Tryz.f77 4 1) (q270 x) (λe => fo_rI (192 + (↑(e / 64) : Int)) ∧ ((0 : Int) ≤ 192 + (↑(e / 64) : Int) ∧ 192 + (↑(e / 64) : Int) ≤ 255) ∧ T141 (opIn Tryz.f77 4 5) (q270 x) (λd => fo_rI (128 + (↑(d % 64) : Int)) ∧ q110 d ∧ ∀(c : Nat), T4 (opIn Tryz.f77 4 9) [fo_vl (q13 c) 2 2] (fo_aR [(0, F), (5080, fo_cl c [fo_vc (192 + (↑(e / 64) : Int)), fo_vc (128 + (↑(d % 64) : Int))] 5)] []) (λb a => Done bysC x F (q248 b) [(0, F), (5080, fo_cl c [fo_vc (192 + (↑(e / 64) : Int)), fo_vc (128 + (↑(d % 64) : Int))] 5)])))) (fo_Bd ((x.c : Int) < 65536) (T142 (opIn Tryz.f77 6 1) [fo_vi ↑x.c, fo_vi 4096] (λg => fo_rI (224 + (↑(g / 4096) : Int)) ∧ ((0 : Int) ≤ 224 + (↑(g / 4096) : Int) ∧ 224 + (↑(g / 4096) : Int) ≤ 255) ∧ T140 (opIn Tryz.f77 6 5) (q270 x) (λf => T141 (opIn Tryz.f77 6 6) [fo_vi (↑(f / 64) : Int), fo_vi 64] (λe => fo_rI (128 + (↑(e % 64) : Int)) ∧ q110 e ∧ T141 (opIn Tryz.f77 6 10) (q270 x) (λd => fo_rI (128 + (↑(d % 64) : Int)) ∧ q110 d ∧ ∀(c : Nat), T4 (opIn Tryz.f77 6 14) [fo_vl (q13 c) 3 3] (fo_aR [(0, F), (7130, fo_cl c (q357 g e d) 5)] []) (λb a => Done bysC x F (q248 b) [(0, F), (7130, fo_cl c (q357 g e d) 5)])))))) (QOpOk Tryz.prog (opIn Tryz.f77 7 1) (dvN 262144) ∧ ∃(i : Nat), [fo_vi ↑x.c, fo_vi 262144] = [fo_vi ↑i, fo_vi (↑(262144 : Nat) : Int)] ∧ (i < 4611686018427387904 ∧ 0 < 262144) ∧ fo_rI (240 + (↑(i / 262144) : Int)) ∧ ((0 : Int) ≤ 240 + (↑(i / 262144) : Int) ∧ 240 + (↑(i / 262144) : Int) ≤ 255) ∧ T142 (opIn Tryz.f77 7 5) [fo_vi ↑x.c, fo_vi 4096] (λh => T141 (opIn Tryz.f77 7 6) [fo_vi (↑(h / 4096) : Int), fo_vi 64] (λg => fo_rI (128 + (↑(g % 64) : Int)) ∧ q110 g ∧ T140 (opIn Tryz.f77 7 10) (q270 x) (λf => T141 (opIn Tryz.f77 7 11) [fo_vi (↑(f / 64) : Int), fo_vi 64] (λe => fo_rI (128 + (↑(e % 64) : Int)) ∧ q110 e ∧ T141 (opIn Tryz.f77 7 15) (q270 x) (λd => fo_rI (128 + (↑(d % 64) : Int)) ∧ q110 d ∧ ∀(c : Nat), T4 (opIn Tryz.f77 7 19) [fo_vl (q13 c) 4 4] (fo_aR [(0, F), (8180, fo_cl c (q303 i g e d) 5)] []) (λb a => Done bysC x F (q248 b) [(0, F), (8180, fo_cl c (q303 i g e d) 5)]))))))))) := by
  delta T4 q13 q248 T140 q270 T141 q110 T142 q357 q303 fo_aR fo_rI fo_O2 fo_vi fo_vc fo_vs fo_vl fo_cl fo_Bd fo_rt
  obtain ⟨c⟩ := x
  have hs : Sc c := hc
  have hle : c ≤ 1114111 := by unfold Sc at hs; omega
  dsimp only
  have fin : ∀ (S : St) (l : List Nat), encL c = l → Ent S (ofL [F]) → Done bysC ⟨c⟩ F (returned (string (btL l))) S := λS l h h2 => ⟨(), fo_tv, by show _ = returned (.string (Utf8.encode (c : Int))); rw [enc_btL hs, h], h2⟩
  refine br_decide (λh => ?_) (λh => br_decide (λh2 => ?_) (λh2 => ?_))
  · exact ⟨⟨by omega, by omega⟩, λb => ⟨b2s_ok rfl rfl rfl rfl, rfl, ⟨some ⟨b, 0, none⟩, 1, 1, [c]⟩, rfl, rfl, .blk b 0 1 rfl, srcd_n (by decide), λ_ _ => fin _ _ (by unfold encL; rw [if_pos (by omega)]) (Ent.pick [0] rfl rfl)⟩⟩
  · have g1 : c / 64 < 64 := by omega
    have g2 := Nat.mod_lt c (show 64 > 0 by decide)
    exact ⟨dvn_ok rfl, c, rfl, ⟨by omega, by decide⟩, ⟨by omega, by omega⟩, ⟨by omega, by omega⟩, mdn_ok rfl, c, rfl, by decide, ⟨by omega, by omega⟩, ⟨by omega, by omega⟩, λb => ⟨b2s_ok rfl rfl rfl rfl, rfl, ⟨some ⟨b, 0, none⟩, 2, 2, [192 + c / 64, 128 + c % 64]⟩, rfl, rfl, .blk b 0 2 rfl, srcd_n (by decide), λ_ _ => fin _ _ (by unfold encL; rw [if_neg (by omega), if_pos (by omega)]) (Ent.pick [0] rfl rfl)⟩⟩
  generalize hq : decide ((c : Int) < 65536) = bq
  cases bq with
  | true =>
    have h3 := fo_od1 hq
    rw [br_true]
    have g1 : c / 4096 < 16 := by omega
    have g2 := Nat.mod_lt c (show 64 > 0 by decide)
    have g3 := Nat.mod_lt (c / 64) (show 64 > 0 by decide)
    have g4 : c / 64 ≤ c := Nat.div_le_self _ _
    exact ⟨dvn_ok rfl, c, rfl, ⟨by omega, by decide⟩, ⟨by omega, by omega⟩, ⟨by omega, by omega⟩, dvn_ok rfl, c, rfl, ⟨by omega, by decide⟩, mdn_ok rfl, c / 64, rfl, by decide, ⟨by omega, by omega⟩, ⟨by omega, by omega⟩, mdn_ok rfl, c, rfl, by decide, ⟨by omega, by omega⟩, ⟨by omega, by omega⟩, λb => ⟨b2s_ok rfl rfl rfl rfl, rfl, ⟨some ⟨b, 0, none⟩, 3, 3, [224 + c / 4096, 128 + c / 64 % 64, 128 + c % 64]⟩, rfl, rfl, .blk b 0 3 rfl, srcd_n (by decide), λ_ _ => fin _ _ (by unfold encL; rw [if_neg (by omega), if_neg (by omega), if_pos (by omega)]) (Ent.pick [0] rfl rfl)⟩⟩
  | false =>
    have h3 := fo_od0 hq
    rw [br_false]
    have g1 : c / 262144 < 8 := by omega
    have g2 := Nat.mod_lt c (show 64 > 0 by decide)
    have g3 := Nat.mod_lt (c / 64) (show 64 > 0 by decide)
    have g5 := Nat.mod_lt (c / 4096) (show 64 > 0 by decide)
    exact ⟨dvn_ok rfl, c, rfl, ⟨by omega, by decide⟩, ⟨by omega, by omega⟩, ⟨by omega, by omega⟩, dvn_ok rfl, c, rfl, ⟨by omega, by decide⟩, mdn_ok rfl, c / 4096, rfl, by decide, ⟨by omega, by omega⟩, ⟨by omega, by omega⟩, dvn_ok rfl, c, rfl, ⟨by omega, by decide⟩, mdn_ok rfl, c / 64, rfl, by decide, ⟨by omega, by omega⟩, ⟨by omega, by omega⟩, mdn_ok rfl, c, rfl, by decide, ⟨by omega, by omega⟩, ⟨by omega, by omega⟩, λb => ⟨b2s_ok rfl rfl rfl rfl, rfl, ⟨some ⟨b, 0, none⟩, 4, 4, [240 + c / 262144, 128 + c / 4096 % 64, 128 + c / 64 % 64, 128 + c % 64]⟩, rfl, rfl, .blk b 0 4 rfl, srcd_n (by decide), λ_ _ => fin _ _ (by unfold encL; rw [if_neg (by omega), if_neg (by omega), if_neg (by omega)]) (Ent.pick [0] rfl rfl)⟩⟩
theorem bys_ok : fo_k 77 bysC := fo 58 Tryz.func77 (λ_ _ => [(2, 2, .n 3020), (2, 3, .o b2sC [] []), (4, 1, .qo (dvN 64)), (4, 5, .qo (mdN 64)), (4, 8, .n 5080), (4, 9, .o b2sC [] []), (6, 1, .qo (dvN 4096)), (6, 5, .qo (dvN 64)), (6, 6, .qo (mdN 64)), (6, 10, .qo (mdN 64)), (6, 13, .n 7130), (6, 14, .o b2sC [] []), (7, 1, .qo (dvN 262144)), (7, 5, .qo (dvN 4096)), (7, 6, .qo (mdN 64)), (7, 10, .qo (dvN 64)), (7, 11, .qo (mdN 64)), (7, 15, .qo (mdN 64)), (7, 18, .n 8180), (7, 19, .o b2sC [] [])]) [] fo_i fo_i fo_o [] bys_vc
abbrev lnrC : Con where
  X := StX
  Y := Unit
  args x := [.string x.s]
  pre _ := []
  cond x := x.s.size ≤ 1048576
  rdc _ _ := True
  rel _ _ := True
  val x _ := .returned (.int .i64 (x.s.size / 2 : Nat))
  post _ _ := []
theorem lnr_vc (x : StX) (F : Atom) (hc : lnrC.cond x) (hr : lnrC.rdc x F) :
 T139 (opIn Tryz.f205 1 2) [fo_vi ↑x.s.size, fo_vi 2] (λa => Done lnrC x F (fo_rt (fo_vi (↑(a / 2) : Int))) [(0, F)]) := by
  delta T139 fo_vi fo_rt
  have hc : x.s.size ≤ 1048576 := hc
  exact ⟨dvn_ok rfl, x.s.size, rfl, ⟨by omega, by decide⟩, (), fo_tv, rfl, Ent.pick [0] rfl rfl⟩
theorem lnr_ok : fo_k 205 lnrC := fo 6 Tryz.func205 (λ_ _ => [(1, 2, .qo (dvN 2))]) [] fo_i fo_i fo_o [] lnr_vc
structure NwS where
  i : Nat
  f : Nat
  o : ByteArray
structure NwS.ok (d : NwS) (w : ByteArray) : Prop where
  hi : d.i ≤ w.size / 2
  hf : w.size / 2 < d.i + d.f
  he : nrF w (w.size / 2 + 1) 0 ⟨#[]⟩ = nrF w d.f d.i d.o
  hz : d.o.size ≤ 4 * d.i
  hv : w.size % 2 = 0
def nrrInv (x : WdX) (F : Atom) : Nat → Option Inv := fun
  | 0 => some { X := NwS, P := λd => d.ok x.s, mu := λd => x.s.size / 2 - d.i, lv := λd => [(0, .string x.s), (4, .string d.o), (5, .int .i64 d.i)], st := λ_ => [F] }
  | _ => none
def T143 (oo : Oper) (aa : List Value) (k0 : Nat → Prop) := QOpOk Tryz.prog oo (mdN 2) ∧ ∃ (z : Nat), aa = [fo_vi ↑z, fo_vi (↑(2 : Nat) : Int)] ∧ 0 < 2 ∧ k0 z
def T144 := fo_C1 76 atrC (λw0 => w0.s.size ≤ 1048576 ∧ w0.i ≤ 1048576)
def T145 := fo_C1 77 bysC (λw0 => Sc w0.c)
def T146 (e0 : WdX) (e1 : Atom) (v0 v1 : Value) (ss : St) (mm : Nat) := ∃ (z : NwS), z.ok e0.s ∧ (fo_vs e0.s = fo_vs e0.s ∧ v0 = fo_vs z.o ∧ v1 = fo_vi ↑z.i ∧ True) ∧ Ent ss [(0, e1)] ∧ e0.s.size.div 2 - z.i < mm
abbrev q72 (j : NwS) (x : WdX) (F : Atom) : ByX2 → Unit → Prop := λc b => j.o.size + (Utf8.encode (c.c : Int)).size ≤ 9223372036854775807 ∧ fo_rI ((j.i : Int) + 1) ∧ T146 x F (fo_vs (j.o ++ Utf8.encode (c.c : Int))) (fo_vi ((j.i : Int) + 1)) [(0, F)] (x.s.size.div 2 - j.i)
def q8 (g : CrX) (j : NwS) (x : WdX) (F : Atom) := fo_Bd (atrV g.s g.i ≥ 55296) (fo_Bd (atrV g.s g.i ≤ 57343) (T145 [fo_vi 65533] (q72 j x F)) (T145 [fo_vi (atrV g.s g.i)] (q72 j x F))) (T145 [fo_vi (atrV g.s g.i)] (q72 j x F))
theorem nrr_vc (x : WdX) (F : Atom) (hc : nrnC.cond x) (hr : nrnC.rdc x F) :
 T143 (opIn Tryz.f30 1 2) [fo_vi ↑x.s.size, fo_vi 2] (λk => Br ((↑(k % 2) : Int) == 1) (q353 x F) ((∃(a : NwS), a.ok x.s ∧ (fo_vs x.s = fo_vs x.s ∧ fo_vs ⟨#[]⟩ = fo_vs a.o ∧ fo_vi 0 = fo_vi ↑a.i ∧ True) ∧ Ent [(0, F)] [(0, F)]) ∧ fo_vA λ(j : NwS) _ => j.ok x.s → T139 (opIn Tryz.f30 5 3) [fo_vi ↑x.s.size, fo_vi 2] (λh => fo_Bd ((j.i : Int) < (↑(h / 2) : Int)) (T144 [fo_vs x.s, fo_vi ↑j.i] (λg f => fo_rI ((j.i : Int) + 1) ∧ T144 [fo_vs x.s, fo_vi ((j.i : Int) + 1)] (λe d => fo_Bd (atrV g.s g.i ≥ 55296) (fo_Bd (atrV g.s g.i ≤ 56319) (fo_Bd (atrV e.s e.i ≥ 56320) (fo_Bd (atrV e.s e.i ≤ 57343) (fo_rI (atrV g.s g.i - 55296) ∧ fo_rI ((atrV g.s g.i - 55296) * 1024) ∧ fo_rI (65536 + (atrV g.s g.i - 55296) * 1024) ∧ fo_rI (65536 + (atrV g.s g.i - 55296) * 1024 + atrV e.s e.i) ∧ fo_rI (65536 + (atrV g.s g.i - 55296) * 1024 + atrV e.s e.i - 56320) ∧ T145 [fo_vi (65536 + (atrV g.s g.i - 55296) * 1024 + atrV e.s e.i - 56320)] (λc b => j.o.size + (Utf8.encode (c.c : Int)).size ≤ 9223372036854775807 ∧ fo_rI ((j.i : Int) + 1) ∧ fo_rI ((j.i : Int) + 1 + (1 : Int)) ∧ T146 x F (fo_vs (j.o ++ Utf8.encode (c.c : Int))) (fo_vi ((j.i : Int) + 1 + (1 : Int))) [(0, F)] (x.s.size.div 2 - j.i))) (q8 g j x F)) (q8 g j x F)) (q8 g j x F)) (q8 g j x F)))) (Done nrnC x F (fo_rt (tuple ⟨[fo_vs j.o, fo_vi 0]⟩)) [(0, F)])))) := by
  delta T143 q353 T139 T144 T145 T146 q72 q8 fo_rI fo_C1 fo_vi fo_vs fo_Bd fo_rt fo_vA
  obtain ⟨w⟩ := x
  have hc : w.size ≤ 1048576 := hc
  dsimp only
  refine ⟨mdn_ok rfl, w.size, rfl, by decide, br_intro (λh => ?_) (λh => ?_)⟩
  · have h : (((w.size % 2 : Nat) : Int) == 1) = true := h
    have h2 : w.size % 2 = 1 := by rw [beq_iff_eq] at h; omega
    refine ⟨(), fo_tv, ?_, Ent.pick [0] rfl rfl⟩
    show _ = returned (.tuple #[.string (nrV w), .int .i64 (nrE w)])
    unfold nrV nrE
    rw [h2] <;> rfl
  have h : (((w.size % 2 : Nat) : Int) == 1) = false := h
  have hev : w.size % 2 = 0 := by rw [fo_bf] at h; omega
  refine ⟨⟨⟨0, w.size / 2 + 1, ⟨#[]⟩⟩, ⟨fo_zl _, by dsimp only; omega, rfl, fo_zl _, hev⟩, ⟨rfl, rfl, rfl, fo_tv⟩, Ent.pick [0] rfl rfl⟩, ?_⟩
  rintro ⟨i, f, o⟩ js ⟨hi, hf, he, hz, -⟩
  dsimp only at hi hf he hz ⊢
  obtain ⟨f', rfl⟩ : ∃ f', f = f' + 1 := ⟨f - 1, by omega⟩
  refine ⟨dvn_ok rfl, w.size, rfl, ⟨by omega, by decide⟩, br_decide (λhlt => ?_) (λhge => ?_)⟩
  rotate_left
  · have hn : ¬ i < w.size / 2 := by omega
    refine ⟨(), fo_tv, ?_, Ent.pick [0] rfl rfl⟩
    show _ = returned (.tuple #[.string (nrV w), .int .i64 (nrE w)])
    have h2 : (w.size % 2 == 0) = true := by simpa using hev
    unfold nrV nrE
    rw [h2, fo_ct, fo_ct, he, nrF, fo_df hn] <;> rfl
  have hlt : i < w.size / 2 := by omega
  refine ⟨atr_ok, rfl, ⟨w, i⟩, rfl, rfl, ⟨hc, by dsimp only; omega⟩, fo_tv, λ_ _ => ⟨⟨by omega, by omega⟩, atr_ok, rfl, ⟨w, i + 1⟩, rfl, rfl, ⟨hc, by dsimp only; omega⟩, fo_tv, λ_ _ => ?_⟩⟩
  have hnx : ∀ (ch n : Nat), nrC w i = (ch, n) → nrF w (f' + 1) i o = nrF w f' (i + n) (o ++ Utf8.encode (ch : Int)) := λch n q => by rw [nrF, fo_dt hlt, fo_ct, q]
  have hC : nrC w i = bif decide (55296 ≤ unitN w i) && decide (unitN w i < 57344) then (bif decide (unitN w i < 56320) && (decide (i + 1 < w.size / 2) && (decide (56320 ≤ unitN w (i + 1)) && decide (unitN w (i + 1) < 57344))) then (65536 + (unitN w i - 55296) * 1024 + (unitN w (i + 1) - 56320), 2) else (65533, 1)) else (unitN w i, 1) := rfl
  have u1 := unitN_lt w i
  have u2 := unitN_lt w (i + 1)
  have hA : atrV w i = (unitN w i : Int) := by unfold atrV; rw [fo_dt hlt] <;> rfl
  have hB : atrV w (i + 1) = bif decide (i + 1 < w.size / 2) then (unitN w (i + 1) : Int) else -1 := rfl
  have leaf : ∀ (ch : Nat) (C : Int), nrC w i = (ch, 1) → C = (ch : Int) → Sc ch → (fo_k 77 bysC ∧ true = true ∧ ∃ (x_6 : ByX2), [int .i64 C] = [int .i64 (x_6.c : Int)] ∧ ([] : List Atom) = [] ∧ Sc x_6.c ∧ True ∧ ∀ (y : Unit), True → o.size + (Utf8.encode (x_6.c : Int)).size ≤ 9223372036854775807 ∧ (-9223372036854775808 ≤ (i : Int) + 1 ∧ (i : Int) + 1 ≤ 9223372036854775807) ∧ ∃ (y : NwS), y.ok w ∧ (string w = string w ∧ string (o ++ Utf8.encode (x_6.c : Int)) = string y.o ∧ int .i64 ((i : Int) + 1) = int .i64 (y.i : Int) ∧ True) ∧ Ent [(0, F)] [(0, F)] ∧ w.size / 2 - y.i < w.size / 2 - i) := by
    intro ch C q1 q2 q3
    subst q2
    have hz4 := enc_size4 ch
    exact ⟨bys_ok, rfl, ⟨ch⟩, rfl, rfl, q3, fo_tv, λ_ _ => ⟨by dsimp only; omega, ⟨by omega, by omega⟩, ⟨i + 1, f', o ++ Utf8.encode (ch : Int)⟩, ⟨hlt, by dsimp only; omega, he.trans (hnx ch 1 q1), by rw [fo_sa]; dsimp only; omega, hev⟩, ⟨rfl, rfl, rfl, fo_tv⟩, Ent.pick [0] rfl rfl, by dsimp only; omega⟩⟩
  dsimp only
  rw [hA]
  generalize hu : unitN w i = u at *
  generalize hv : unitN w (i + 1) = v at *
  have q1 : Sc 65533 := .inr ⟨by decide, by decide⟩
  have lone : ¬ (55296 ≤ u ∧ u < 57344) → nrC w i = (u, 1) := λh => by rw [hC, ← Bool.decide_and, fo_df h] <;> rfl
  have bad : (55296 ≤ u ∧ u < 57344) → ¬ (u < 56320 ∧ i + 1 < w.size / 2 ∧ 56320 ≤ v ∧ v < 57344) → nrC w i = (65533, 1) := λh h2 => by rw [hC, fo_dt h.1, fo_dt h.2, ← Bool.decide_and, ← Bool.decide_and, ← Bool.decide_and, fo_df h2] <;> rfl
  have pair : (55296 ≤ u ∧ u < 56320 ∧ i + 1 < w.size / 2 ∧ 56320 ≤ v ∧ v < 57344) → nrC w i = (65536 + (u - 55296) * 1024 + (v - 56320), 2) := λ⟨h1, h2, h3, h4, h5⟩ => by rw [hC, fo_dt h1, fo_dt (show u < 57344 by omega), fo_dt h2, fo_dt h3, fo_dt h4, fo_dt h5] <;> rfl
  obtain ⟨d, hd⟩ : ∃ d, d = atrV w (i + 1) := ⟨_, rfl⟩
  rw [← hd]
  have hd2 : (i + 1 < w.size / 2 ∧ d = (v : Int)) ∨ (¬ i + 1 < w.size / 2 ∧ d = -1) := by
    by_cases g : i + 1 < w.size / 2
    · exact .inl ⟨g, by rw [hd, hB, fo_dt g] <;> rfl⟩
    · exact .inr ⟨g, by rw [hd, hB, fo_df g] <;> rfl⟩
  clear hd hB hC
  generalize g1 : decide ((u : Int) ≥ 55296) = c1
  generalize g2 : decide ((u : Int) ≤ 56319) = c2
  generalize g3 : decide (d ≥ 56320) = c3
  generalize g4 : decide (d ≤ 57343) = c4
  generalize g5 : decide ((u : Int) ≤ 57343) = c5
  have t1 : c1 = true → (u : Int) ≥ 55296 := λe => fo_od1 (g1.trans e)
  have t2 : c2 = true → (u : Int) ≤ 56319 := λe => fo_od1 (g2.trans e)
  have t3 : c3 = true → d ≥ 56320 := λe => fo_od1 (g3.trans e)
  have t4 : c4 = true → d ≤ 57343 := λe => fo_od1 (g4.trans e)
  have t5 : c5 = true → (u : Int) ≤ 57343 := λe => fo_od1 (g5.trans e)
  have n1 : c1 = false → ¬ (u : Int) ≥ 55296 := λe => fo_od0 (g1.trans e)
  have n2 : c2 = false → ¬ (u : Int) ≤ 56319 := λe => fo_od0 (g2.trans e)
  have n3 : c3 = false → ¬ d ≥ 56320 := λe => fo_od0 (g3.trans e)
  have n4 : c4 = false → ¬ d ≤ 57343 := λe => fo_od0 (g4.trans e)
  have n5 : c5 = false → ¬ (u : Int) ≤ 57343 := λe => fo_od0 (g5.trans e)
  clear g1 g2 g3 g4 g5
  have rest : (c1 = true → c2 = true → c3 = true → c4 = true → False) → Br c1 (Br c5 (fo_k 77 bysC ∧ true = true ∧ ∃ (x_6 : ByX2), [int .i64 65533] = [int .i64 (x_6.c : Int)] ∧ ([] : List Atom) = [] ∧ Sc x_6.c ∧ True ∧ ∀ (y : Unit), True → o.size + (Utf8.encode (x_6.c : Int)).size ≤ 9223372036854775807 ∧ (-9223372036854775808 ≤ (i : Int) + 1 ∧ (i : Int) + 1 ≤ 9223372036854775807) ∧ ∃ (y : NwS), y.ok w ∧ (string w = string w ∧ string (o ++ Utf8.encode (x_6.c : Int)) = string y.o ∧ int .i64 ((i : Int) + 1) = int .i64 (y.i : Int) ∧ True) ∧ Ent [(0, F)] [(0, F)] ∧ w.size / 2 - y.i < w.size / 2 - i) _) _ := λhno => by
    cases c1 with
    | false => have := n1 rfl; rw [br_false]; exact leaf u _ (lone (by omega)) rfl (.inl (by omega))
    | true =>
      have := t1 rfl
      rw [br_true]
      cases c5 with
      | false => have := n5 rfl; rw [br_false]; exact leaf u _ (lone (by omega)) rfl (.inr ⟨by omega, by omega⟩)
      | true =>
        have := t5 rfl
        rw [br_true]
        refine leaf 65533 _ (bad ⟨by omega, by omega⟩ λ⟨a1, a2, a3, a4⟩ => ?_) rfl q1
        have hdv : d = (v : Int) := by rcases hd2 with h | h; exact h.2; exact absurd a2 h.1
        exact hno rfl (by cases c2; exact absurd (n2 rfl) (by omega); rfl) (by cases c3; exact absurd (n3 rfl) (by omega); rfl) (by cases c4; exact absurd (n4 rfl) (by omega); rfl)
  cases c1 with
  | false => rw [br_false]; exact rest (λh => by cases h)
  | true =>
    rw [br_true]
    cases c2 with
    | false => rw [br_false]; exact rest (λ_ h => by cases h)
    | true =>
      rw [br_true]
      cases c3 with
      | false => rw [br_false]; exact rest (λ_ _ h => by cases h)
      | true =>
        rw [br_true]
        cases c4 with
        | false => rw [br_false]; exact rest (λ_ _ _ h => by cases h)
        | true =>
          rw [br_true]
          have a1 := t1 rfl
          have a2 := t2 rfl
          have a3 := t3 rfl
          have a4 := t4 rfl
          obtain ⟨hi1, rfl⟩ : i + 1 < w.size / 2 ∧ d = (v : Int) := by rcases hd2 with h | h; exact h; omega
          have hz4 := enc_size4 (65536 + (u - 55296) * 1024 + (v - 56320))
          refine ⟨⟨by omega, by omega⟩, ⟨by omega, by omega⟩, ⟨by omega, by omega⟩, ⟨by omega, by omega⟩, ⟨by omega, by omega⟩, bys_ok, rfl, ⟨65536 + (u - 55296) * 1024 + (v - 56320)⟩, by dsimp only; congr 2; omega, rfl, .inr ⟨by dsimp only; omega, by dsimp only; omega⟩, fo_tv, λ_ _ => ⟨by dsimp only; omega, ⟨by omega, by omega⟩, ⟨by omega, by omega⟩, ⟨i + 2, f', o ++ Utf8.encode ((65536 + (u - 55296) * 1024 + (v - 56320) : Nat) : Int)⟩, ⟨by dsimp only; omega, by dsimp only; omega, he.trans (hnx _ 2 (pair ⟨by omega, by omega, hi1, by omega, by omega⟩)), by rw [fo_sa]; dsimp only; omega, hev⟩, ⟨rfl, rfl, rfl, fo_tv⟩, Ent.pick [0] rfl rfl, show w.size / 2 - (i + 2) < w.size / 2 - i by omega⟩⟩
theorem nrr_ok : fo_k 30 nrnC := fo 66 Tryz.func30 (λ_ _ => [(1, 2, .qo (mdN 2)), (5, 3, .qo (dvN 2)), (7, 2, .c atrC [] []), (7, 6, .c atrC [] []), (9, 8, .c bysC [] []), (12, 1, .c bysC [] []), (13, 2, .c bysC [] [])]) [] nrrInv fo_i fo_o [] nrr_vc
end
section
open Go
set_option maxHeartbeats 1000000
abbrev qurC : Con where
  X := StX
  Y := Unit
  args x := [.string x.s]
  pre _ := []
  cond x := x.s.size ≤ 1048576
  rdc _ _ := True
  rel _ _ := True
  val x _ := .returned (.string (quV x.s))
  post _ _ := []
structure QrS where
  i : Nat
  f : Nat
  o : ByteArray
structure QrS.ok (d : QrS) (w : ByteArray) : Prop where
  hi : d.i ≤ w.size / 2
  hf : w.size / 2 < d.i + d.f
  he : quV w = quF w d.f d.i d.o ++ btL [0, 34]
  hz : d.o.size ≤ 2 + 12 * d.i
def qurInv (x : StX) (F : Atom) : Nat → Option Inv := fun
  | 0 => some { X := QrS, P := λd => d.ok x.s, mu := λd => x.s.size / 2 - d.i, lv := λd => [(0, .string x.s), (3, .string d.o), (4, .int .i64 d.i)], st := λ_ => [F] }
  | _ => none
theorem esc_len (u : Nat) : (esc u).length ≤ 12 := by
  unfold esc
  cases (u == 34) <;> cases (u == 92) <;> cases (u == 8) <;> cases (u == 12) <;> cases (u == 10) <;> cases (u == 13) <;> cases (u == 9) <;> cases decide (u < 32) <;> exact Nat.le_of_ble_eq_true rfl
theorem esc_hi {u : Nat} (h1 : u ≠ 34) (h2 : u ≠ 92) (h3 : ¬ u < 32) : esc u = [u / 256, u % 256] := by
  unfold esc
  rw [show (u == 34) = false by simpa using h1, show (u == 92) = false by simpa using h2, show (u == 8) = false by simp; omega, show (u == 12) = false by simp; omega, show (u == 10) = false by simp; omega, show (u == 13) = false by simp; omega, show (u == 9) = false by simp; omega, fo_df h3] <;> rfl
theorem esc_lo : ∀ u : Fin 32, u.val ≠ 8 → u.val ≠ 9 → u.val ≠ 10 → u.val ≠ 12 → u.val ≠ 13 → (ofV ((⟨#[92, 117, 48, 48]⟩ : ByteArray) ++ hxT.extract (u.val / 16) (u.val / 16 + 1) ++ hxT.extract (u.val % 16) (u.val % 16 + 1))).data.toList = (btL (esc u.val)).data.toList := by decide +kernel
theorem of_34 : ofV ⟨#[34]⟩ = btL [0, 34] := ba_list (by decide +kernel)
theorem of_92 : ofV ⟨#[92]⟩ = btL [0, 92] := ba_list (by decide +kernel)
theorem of_b : ofV ⟨#[92, 98]⟩ = btL (esc 8) := ba_list (by decide +kernel)
theorem of_t : ofV ⟨#[92, 116]⟩ = btL (esc 9) := ba_list (by decide +kernel)
theorem of_n : ofV ⟨#[92, 110]⟩ = btL (esc 10) := ba_list (by decide +kernel)
theorem of_f : ofV ⟨#[92, 102]⟩ = btL (esc 12) := ba_list (by decide +kernel)
theorem of_r : ofV ⟨#[92, 114]⟩ = btL (esc 13) := ba_list (by decide +kernel)
def T147 := fo_C1 201 w1C q223
def T148 := fo_C1 205 lnrC q135
def T149 (e0 : StX) (e1 : Atom) (v0 v1 : Value) (ss : St) (mm : Nat) := ∃ (z : QrS), z.ok e0.s ∧ (fo_vs e0.s = fo_vs e0.s ∧ v0 = fo_vs z.o ∧ v1 = fo_vi ↑z.i ∧ True) ∧ Ent ss [(0, e1)] ∧ e0.s.size.div 2 - z.i < mm
def q84 (m : QrS) (i : CrX) (x : StX) (F : Atom) := T147 [fo_vs ⟨#[92]⟩] (λe d => m.o.size + (ofV e.s).size ≤ 9223372036854775807 ∧ T120 [fo_vi (atrV i.s i.i)] (λc b => (m.o ++ ofV e.s).size + (btL [c.u / 256, c.u % 256]).size ≤ 9223372036854775807 ∧ fo_rI ((m.i : Int) + 1) ∧ T149 x F (fo_vs (m.o ++ ofV e.s ++ btL [c.u / 256, c.u % 256])) (fo_vi ((m.i : Int) + 1)) [(0, F)] (x.s.size.div 2 - m.i)))
abbrev q28 (m : QrS) (x : StX) (F : Atom) : WdX → Unit → Prop := λc b => m.o.size + (ofV c.s).size ≤ 9223372036854775807 ∧ fo_rI ((m.i : Int) + 1) ∧ T149 x F (fo_vs (m.o ++ ofV c.s)) (fo_vi ((m.i : Int) + 1)) [(0, F)] (x.s.size.div 2 - m.i)
def T150 (oo : Oper) (aa : List Value) (k0 : Nat → Prop) := QOpOk Tryz.prog oo (dvN 16) ∧ ∃ (z : Nat), aa = [fo_vi ↑z, fo_vi (↑(16 : Nat) : Int)] ∧ (z < 4611686018427387904 ∧ 0 < 16) ∧ k0 z
abbrev q282 (i : CrX) : List Value := [fo_vi (atrV i.s i.i), fo_vi 16]
def T151 (oo : Oper) (aa : List Value) (k0 : Nat → Prop) := QOpOk Tryz.prog oo (mdN 16) ∧ ∃ (z : Nat), aa = [fo_vi ↑z, fo_vi (↑(16 : Nat) : Int)] ∧ 0 < 16 ∧ k0 z
theorem qur_vc (x : StX) (F : Atom) (hc : qurC.cond x) (hr : qurC.rdc x F) :
 T147 [fo_vs ⟨#[34]⟩] (λo n => (∃(a : QrS), a.ok x.s ∧ (fo_vs x.s = fo_vs x.s ∧ fo_vs (ofV o.s) = fo_vs a.o ∧ fo_vi 0 = fo_vi ↑a.i ∧ True) ∧ Ent [(0, F)] [(0, F)]) ∧ fo_vA λ(m : QrS) _ => m.ok x.s → T148 [fo_vs x.s] (λk j => fo_Bd ((m.i : Int) < (↑(k.s.size / 2) : Int)) (T144 [fo_vs x.s, fo_vi ↑m.i] (λi h => Br (atrV i.s i.i == 34) (q84 m i x F) (Br (atrV i.s i.i == 92) (q84 m i x F) (Br (atrV i.s i.i == 8) (T147 [fo_vs ⟨#[92, 98]⟩] (q28 m x F)) (Br (atrV i.s i.i == 9) (T147 [fo_vs ⟨#[92, 116]⟩] (q28 m x F)) (Br (atrV i.s i.i == 10) (T147 [fo_vs ⟨#[92, 110]⟩] (q28 m x F)) (Br (atrV i.s i.i == 12) (T147 [fo_vs ⟨#[92, 102]⟩] (q28 m x F)) (Br (atrV i.s i.i == 13) (T147 [fo_vs ⟨#[92, 114]⟩] (q28 m x F)) (fo_Bd (atrV i.s i.i < 32) (true = true ∧ T150 (opIn Tryz.f203 20 2) (q282 i) (λg => T150 (opIn Tryz.f203 20 4) (q282 i) (λf => fo_rI ((↑(f / 16) : Int) + 1) ∧ (0 ≤ (↑(g / 16) : Int) ∧ (↑(g / 16) : Int) ≤ (↑(f / 16) : Int) + 1 ∧ (↑(f / 16) : Int) + 1 ≤ (↑q41.size : Int)) ∧ 4 + (q41.extract (↑(g / 16) : Int).toNat ((↑(f / 16) : Int) + 1).toNat).size ≤ 9223372036854775807 ∧ T151 (opIn Tryz.f203 20 9) (q282 i) (λe => T151 (opIn Tryz.f203 20 11) (q282 i) (λd => fo_rI ((↑(d % 16) : Int) + 1) ∧ (0 ≤ (↑(e % 16) : Int) ∧ (↑(e % 16) : Int) ≤ (↑(d % 16) : Int) + 1 ∧ (↑(d % 16) : Int) + 1 ≤ (↑q41.size : Int)) ∧ (q296 ++ q41.extract (↑(g / 16) : Int).toNat ((↑(f / 16) : Int) + 1).toNat).size + (q41.extract (↑(e % 16) : Int).toNat ((↑(d % 16) : Int) + 1).toNat).size ≤ 9223372036854775807 ∧ T147 [fo_vs (q296 ++ q41.extract (↑(g / 16) : Int).toNat ((↑(f / 16) : Int) + 1).toNat ++ q41.extract (↑(e % 16) : Int).toNat ((↑(d % 16) : Int) + 1).toNat)] (q28 m x F)))))) (T120 [fo_vi (atrV i.s i.i)] (λc b => m.o.size + (btL [c.u / 256, c.u % 256]).size ≤ 9223372036854775807 ∧ fo_rI ((m.i : Int) + 1) ∧ T149 x F (fo_vs (m.o ++ btL [c.u / 256, c.u % 256])) (fo_vi ((m.i : Int) + 1)) [(0, F)] (x.s.size.div 2 - m.i)))))))))))) (T147 [fo_vs ⟨#[34]⟩] (λb a => m.o.size + (ofV b.s).size ≤ 9223372036854775807 ∧ Done qurC x F (fo_rt (fo_vs (m.o ++ ofV b.s))) [(0, F)])))) := by
  delta q223 T147 q135 T148 T144 T120 T149 q84 q28 T150 q282 q41 T151 q296 fo_rI fo_C1 fo_vi fo_vs fo_Bd fo_rt fo_vA
  obtain ⟨w⟩ := x
  have hc : w.size ≤ 1048576 := hc
  dsimp only
  have z1 : ∀ n : Nat, n ≤ 20 → n ≤ 1048576 := λn h => by omega
  refine ⟨w1_ok, rfl, ⟨⟨#[34]⟩⟩, rfl, rfl, z1 1 (by decide), fo_tv, λ_ _ => ⟨⟨⟨0, w.size / 2 + 1, btL [0, 34]⟩, ⟨fo_zl _, by dsimp only; omega, rfl, fo_nr _⟩, ⟨rfl, by dsimp only; rw [of_34], rfl, fo_tv⟩, Ent.pick [0] rfl rfl⟩, ?_⟩⟩
  rintro ⟨i, f, o⟩ js ⟨hi, hf, he, hz⟩
  dsimp only at hi hf he hz ⊢
  obtain ⟨f', rfl⟩ : ∃ f', f = f' + 1 := ⟨f - 1, by omega⟩
  refine ⟨lnr_ok, rfl, ⟨w⟩, rfl, rfl, hc, fo_tv, λ_ _ => br_decide (λhlt => ?_) (λhge => ?_)⟩
  rotate_left
  · have hn : ¬ i < w.size / 2 := by dsimp only at hge; omega
    refine ⟨w1_ok, rfl, ⟨⟨#[34]⟩⟩, rfl, rfl, z1 1 (by decide), fo_tv, λ_ _ => ⟨?_, (), fo_tv, ?_, Ent.pick [0] rfl rfl⟩⟩
    · dsimp only; rw [of_34, btL_size]; simp only [fo_lc, List.length_nil]; omega
    · show _ = returned (.string (quV w))
      dsimp only
      rw [of_34, he, quF, fo_df hn] <;> rfl
  have hlt : i < w.size / 2 := by dsimp only at hlt; omega
  refine ⟨atr_ok, rfl, ⟨w, i⟩, rfl, rfl, ⟨hc, by dsimp only; omega⟩, fo_tv, λ_ _ => ?_⟩
  have hA : atrV w i = (unitN w i : Int) := by unfold atrV; rw [fo_dt hlt] <;> rfl
  have u1 := unitN_lt w i
  rw [quF, fo_dt hlt, fo_ct] at he
  have he : quV w = quF w f' (i + 1) (o ++ btL (esc (unitN w i))) ++ btL [0, 34] := he
  dsimp only
  rw [hA]
  generalize unitN w i = u at *
  have hl := esc_len u
  have tl : ∀ s' : ByteArray, s' = o ++ btL (esc u) → ((-9223372036854775808 ≤ (i : Int) + 1 ∧ (i : Int) + 1 ≤ 9223372036854775807) ∧ ∃ (y : QrS), y.ok w ∧ (string w = string w ∧ string s' = string y.o ∧ int .i64 ((i : Int) + 1) = int .i64 (y.i : Int) ∧ True) ∧ Ent [(0, F)] [(0, F)] ∧ w.size / 2 - y.i < w.size / 2 - i) := λs' e =>
    ⟨⟨by omega, by omega⟩, ⟨i + 1, f', o ++ btL (esc u)⟩, ⟨hlt, by dsimp only; omega, he, by dsimp only; rw [sz_app]; omega⟩, ⟨rfl, by rw [e], rfl, fo_tv⟩, Ent.pick [0] rfl rfl, by dsimp only; omega⟩
  have one : ∀ s : ByteArray, s.size ≤ 20 → ofV s = btL (esc u) → (fo_k 201 w1C ∧ true = true ∧ ∃ (x_5 : WdX), [string s] = [string x_5.s] ∧ ([] : List Atom) = [] ∧ x_5.s.size ≤ 1048576 ∧ True ∧ ∀ (y : Unit), True → o.size + (ofV x_5.s).size ≤ 9223372036854775807 ∧ ((-9223372036854775808 ≤ (i : Int) + 1 ∧ (i : Int) + 1 ≤ 9223372036854775807) ∧ ∃ (y : QrS), y.ok w ∧ (string w = string w ∧ string (o ++ ofV x_5.s) = string y.o ∧ int .i64 ((i : Int) + 1) = int .i64 (y.i : Int) ∧ True) ∧ Ent [(0, F)] [(0, F)] ∧ w.size / 2 - y.i < w.size / 2 - i)) := λs hs e =>
    ⟨w1_ok, rfl, ⟨s⟩, rfl, rfl, z1 _ hs, fo_tv, λ_ _ => ⟨by dsimp only; rw [e, btL_size]; omega, tl _ (by dsimp only; rw [e])⟩⟩
  have two : esc u = [0, 92, u / 256, u % 256] → (fo_k 201 w1C ∧ true = true ∧ ∃ (x_5 : WdX), [string ⟨#[92]⟩] = [string x_5.s] ∧ ([] : List Atom) = [] ∧ x_5.s.size ≤ 1048576 ∧ True ∧ ∀ (y : Unit), True → o.size + (ofV x_5.s).size ≤ 9223372036854775807 ∧ fo_k 65 unC ∧ true = true ∧ ∃ (x_6 : UntX), [int .i64 (u : Int)] = [int .i64 (x_6.u : Int)] ∧ ([] : List Atom) = [] ∧ x_6.u < 65536 ∧ True ∧ ∀ (y : Unit), True → (o ++ ofV x_5.s).size + (btL [x_6.u / 256, x_6.u % 256]).size ≤ 9223372036854775807 ∧ ((-9223372036854775808 ≤ (i : Int) + 1 ∧ (i : Int) + 1 ≤ 9223372036854775807) ∧ ∃ (y : QrS), y.ok w ∧ (string w = string w ∧ string (o ++ ofV x_5.s ++ btL [x_6.u / 256, x_6.u % 256]) = string y.o ∧ int .i64 ((i : Int) + 1) = int .i64 (y.i : Int) ∧ True) ∧ Ent [(0, F)] [(0, F)] ∧ w.size / 2 - y.i < w.size / 2 - i)) := λe =>
    ⟨w1_ok, rfl, ⟨⟨#[92]⟩⟩, rfl, rfl, z1 1 (by decide), fo_tv, λ_ _ => ⟨by dsimp only; rw [of_92, btL_size]; simp only [fo_lc, List.length_nil]; omega, un_ok, rfl, ⟨u⟩, rfl, rfl, u1, fo_tv, λ_ _ => ⟨by dsimp only; rw [of_92, fo_sa, btL_size, btL_size]; simp only [fo_lc, List.length_nil]; omega, tl _ (by dsimp only; rw [of_92, e, ba_assoc, btL_app] <;> rfl)⟩⟩⟩
  refine br_intro (λc => ?_) (λc1 => br_intro (λc => ?_) (λc2 => br_intro (λc => ?_) (λc3 => br_intro (λc => ?_) (λc4 => br_intro (λc => ?_) (λc5 => br_intro (λc => ?_) (λc6 => br_intro (λc => ?_) (λc7 => br_decide (λc => ?_) (λc8 => ?_))))))))
  · have c := beq_iff_eq.1 (eqN 34 c); subst c; exact two rfl
  · have c := beq_iff_eq.1 (eqN 92 c); subst c; exact two rfl
  · have c := beq_iff_eq.1 (eqN 8 c); subst c; exact one _ (by decide) of_b
  · have c := beq_iff_eq.1 (eqN 9 c); subst c; exact one _ (by decide) of_t
  · have c := beq_iff_eq.1 (eqN 10 c); subst c; exact one _ (by decide) of_n
  · have c := beq_iff_eq.1 (eqN 12 c); subst c; exact one _ (by decide) of_f
  · have c := beq_iff_eq.1 (eqN 13 c); subst c; exact one _ (by decide) of_r
  all_goals
    have c1 := fo_bf.1 (eqN 34 c1)
    have c2 := fo_bf.1 (eqN 92 c2)
    have c3 := fo_bf.1 (eqN 8 c3)
    have c4 := fo_bf.1 (eqN 9 c4)
    have c5 := fo_bf.1 (eqN 10 c5)
    have c6 := fo_bf.1 (eqN 12 c6)
    have c7 := fo_bf.1 (eqN 13 c7)
  · have hlo := ba_list (esc_lo ⟨u, by omega⟩ c3 c4 c5 c6 c7)
    dsimp only at hlo
    have hu : u < 32 := by omega
    have d1 : u / 16 ≤ 1 := by omega
    have d2 : u % 16 < 16 := Nat.mod_lt _ (by decide)
    have s1 : (hxT.extract (u / 16) (u / 16 + 1)).size ≤ 1 := by rw [fo_se]; omega
    have s2 : (hxT.extract (u % 16) (u % 16 + 1)).size ≤ 1 := by rw [fo_se]; omega
    have hx16 : hxT.size = 16 := rfl
    have s3 : ((⟨#[92, 117, 48, 48]⟩ : ByteArray) ++ hxT.extract (u / 16) (u / 16 + 1)).size ≤ 5 := by rw [fo_sa]; exact Nat.add_le_add_left s1 4
    have s4 : ((⟨#[92, 117, 48, 48]⟩ : ByteArray) ++ hxT.extract (u / 16) (u / 16 + 1) ++ hxT.extract (u % 16) (u % 16 + 1)).size ≤ 6 := by rw [fo_sa]; exact Nat.add_le_add s3 s2
    refine ⟨rfl, dvn_ok rfl, u, rfl, ⟨by omega, by decide⟩, dvn_ok rfl, u, rfl, ⟨by omega, by decide⟩, ⟨by omega, by omega⟩, ⟨by omega, by omega, show ((u / 16 : Nat) : Int) + 1 ≤ (16 : Int) by omega⟩, ?_, mdn_ok rfl, u, rfl, by decide, mdn_ok rfl, u, rfl, by decide, ⟨by omega, by omega⟩, ⟨by omega, by omega, show ((u % 16 : Nat) : Int) + 1 ≤ (16 : Int) by omega⟩, ?_, w1_ok, rfl, ⟨(⟨#[92, 117, 48, 48]⟩ : ByteArray) ++ hxT.extract (u / 16) (u / 16 + 1) ++ hxT.extract (u % 16) (u % 16 + 1)⟩, rfl, rfl, z1 _ (fo_lt s4 (by decide)), fo_tv, λ_ _ => ⟨?_, tl _ ?_⟩⟩
    · show 4 + (hxT.extract (u / 16) (u / 16 + 1)).size ≤ 9223372036854775807; omega
    · show ((⟨#[92, 117, 48, 48]⟩ : ByteArray) ++ hxT.extract (u / 16) (u / 16 + 1)).size + (hxT.extract (u % 16) (u % 16 + 1)).size ≤ 9223372036854775807; omega
    · dsimp only; rw [hlo, btL_size]; omega
    · dsimp only; rw [hlo]
  · have e := esc_hi c1 c2 (by omega)
    exact ⟨un_ok, rfl, ⟨u⟩, rfl, rfl, u1, fo_tv, λ_ _ => ⟨by dsimp only; rw [btL_size]; simp only [fo_lc, List.length_nil]; omega, tl _ (by dsimp only; rw [e])⟩⟩
theorem qur_ok : fo_k 203 qurC := fo 86 Tryz.func203 (λ_ _ => [(1, 0, .c w1C [] []), (3, 2, .c lnrC [] []), (5, 2, .c atrC [] []), (6, 2, .c unC [] []), (8, 1, .c w1C [] []), (8, 4, .c unC [] []), (10, 1, .c w1C [] []), (12, 1, .c w1C [] []), (14, 1, .c w1C [] []), (16, 1, .c w1C [] []), (18, 1, .c w1C [] []), (20, 2, .qo (dvN 16)), (20, 4, .qo (dvN 16)), (20, 9, .qo (mdN 16)), (20, 11, .qo (mdN 16)), (20, 15, .c w1C [] []), (21, 1, .c w1C [] [])]) [] qurInv fo_i fo_o [] qur_vc
end
end Go.Proofs.YtjdabjmjldiodaaGreatDoor
