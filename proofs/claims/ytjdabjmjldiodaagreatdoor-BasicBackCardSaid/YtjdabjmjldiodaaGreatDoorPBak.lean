/- A part of the proof that pennantlaw23.BasicBack answers true at every input. -/
import Derived.Test.YtjdabjmjldiodaaGreatDoorPBaj
set_option linter.all false
namespace Go.Proofs.YtjdabjmjldiodaaGreatDoor
set_option maxRecDepth 100000
open Go.Value (int slice string bool pointer agg tuple func float iface nilIface)
open Go.IntKind (i64 u8 u64 i32 u32 u16 i8 i16)
open Go.FloatKind (f64)
open Go.Ending (returned panicked)
section
open Go
set_option maxHeartbeats 1000000
def jdg (c : Int) : Bool := decide (48 ≤ c) && decide (c ≤ 57)
abbrev dgfC : Con where
  X := JrX
  Y := Unit
  args x := [.pointer (some ⟨x.b, 0, none⟩)]
  pre x := [jrA x.b x.w x.i]
  cond x := x.w.size ≤ 1048576 ∧ x.i ≤ 1048575 ∧ jdg (jpkR0 x.w x.i) = true ∧ jdg (jpkR0 x.w (x.i + 1)) = false
  rdc _ _ := True
  rel _ _ := True
  val _ _ := .returned (.tuple #[])
  post x _ := [jrA x.b x.w (x.i + 1)]
structure DfS where
  i : Nat
def dgfInv (x : JrX) (F : Atom) : Nat → Option Inv := fun
  | 0 => some { X := DfS, P := λd => d.i = x.i ∨ d.i = x.i + 1, mu := λd => x.i + 2 - d.i, lv := λ_ => [(0, .pointer (some ⟨x.b, 0, none⟩)), (2, .int .i64 x.i)], st := λd => [jrA x.b x.w d.i, F] }
  | _ => none
def dgfCut (x : JrX) (F : Atom) : Nat → Option Inv := fun
  | 3 => some { X := Unit, P := λ_ => True, mu := λ_ => 0, lv := λ_ => [(0, .pointer (some ⟨x.b, 0, none⟩)), (2, .int .i64 x.i)], st := λ_ => [jrA x.b x.w (x.i + 1), F] }
  | _ => none
def q193 (e0 : JrX) := fo_vp (q138 e0) = fo_vp (q138 e0) ∧ fo_vi ↑e0.i = fo_vi ↑e0.i ∧ True
abbrev q134 (x : JrX) (a : DfS) (F : Atom) := [(0, fo_cl x.b [fo_vs x.w, fo_vi ↑a.i] 138), (1, F)]
def T97 (e0 : JrX) (e1 : Atom) (ss : St) := ∃ (z : Unit), True ∧ q193 e0 ∧ Ent ss [(0, fo_cl e0.b (q67 e0) 138), (1, e1)]
theorem dgf_vc (x : JrX) (F : Atom) (hc : dgfC.cond x) (hr : dgfC.rdc x F) :
 fo_sm x.b 1 ∧ ((∃(a : DfS), (a.i = x.i ∨ a.i = x.i + 1) ∧ q193 x ∧ Ent [(0, fo_cl x.b (q338 x) 138), (1, F)] (q134 x a F)) ∧ fo_vA λ(g : DfS) _ => (g.i = x.i ∨ g.i = x.i + 1) → T90 [fo_vp (q138 x)] (fo_aR (q134 x g F) []) (λe d => fo_Bd (jpkR0 e.w e.i ≥ 48) (T90 [fo_vp (q138 x)] (fo_aR (q134 x g F) []) (λc b => fo_Bd (jpkR0 c.w c.i ≤ 57) (fo_sm x.b 1 ∧ fo_rI ((g.i : Int) + 1) ∧ fo_sm x.b 1 ∧ ∃(a : DfS), (a.i = x.i ∨ a.i = x.i + 1) ∧ q193 x ∧ Ent [(0, fo_cl x.b [fo_vs x.w, fo_vi ((g.i : Int) + 1)] 138), (1, F)] (q134 x a F) ∧ x.i + 2 - a.i < x.i + 2 - g.i) (T97 x F (q134 x g F)))) (T97 x F (q134 x g F)))) ∧ fo_vA λ(d : Unit) _ => True → fo_sm x.b 1 ∧ Br ((↑(x.i + 1) : Int) == (x.i : Int)) (T91 [fo_vp (q138 x)] (λb a => Done dgfC x F q74 [(0, fo_cl x.b (q67 x) 138), (1, F)])) (Done dgfC x F q74 [(0, fo_cl x.b (q67 x) 138), (1, F)]) := by
  delta q138 q193 q338 q134 T90 q67 T97 T91 q74 fo_aR fo_sm fo_rI fo_C1 fo_C2 fo_vi fo_vs fo_vp fo_cl fo_Bd fo_rt fo_vA
  obtain ⟨h1, h2, h3, h4⟩ := hc
  have J : ∀ k : Nat, JrIn ⟨x.b, x.w, k, ⟨#[]⟩, 0⟩ (.pred (rest (ofL [jrA x.b x.w k, F]) [])) := λk => JrIn.sub (sub_rest 0 (by simp) rfl) (.jr ⟨x.b, x.w, k, ⟨#[]⟩, 0⟩)
  have g3 : 48 ≤ jpkR0 x.w x.i ∧ jpkR0 x.w x.i ≤ 57 := by simpa [jdg] using h3
  refine ⟨⟨rfl, rfl⟩, ⟨⟨⟨x.i⟩, .inl rfl, ⟨rfl, rfl, fo_tv⟩, Ent.pick [0, 1] rfl rfl⟩, ?_⟩, ?_⟩
  · rintro ⟨i⟩ js hi
    have hi : i = x.i ∨ i = x.i + 1 := hi
    have ok : JrX.mk x.b x.w i ⟨#[]⟩ 0 = ⟨x.b, x.w, i, ⟨#[]⟩, 0⟩ := rfl
    refine ⟨pkf_ok, rfl, ⟨x.b, x.w, i, ⟨#[]⟩, 0⟩, rfl, rfl, ⟨h1, by dsimp only; omega⟩, J i, λ_ _ => br_decide (λc1 => ⟨pkf_ok, rfl, ⟨x.b, x.w, i, ⟨#[]⟩, 0⟩, rfl, rfl, ⟨h1, by dsimp only; omega⟩, J i, λ_ _ => br_decide (λc2 => ?_) (λc2 => ?_)⟩) (λc1 => ?_)⟩
    · dsimp only at c1 c2 ⊢
      have hi : i = x.i := by
        rcases hi with hi | hi
        · exact hi
        · rw [hi] at c1 c2
          unfold jdg at h4
          rw [fo_dt c1, fo_dt c2] at h4
          cases h4
      subst hi
      exact ⟨⟨rfl, rfl⟩, ⟨by omega, by omega⟩, ⟨rfl, rfl⟩, ⟨x.i + 1⟩, .inr rfl, ⟨rfl, rfl, fo_tv⟩, Ent.pick [0, 1] rfl rfl, by dsimp only; omega⟩
    · rcases hi with hi | hi
      · dsimp only at c2
        rw [hi] at c2
        exact (c2 g3.2).elim
      · exact ⟨(), fo_tv, ⟨rfl, rfl, fo_tv⟩, Ent.pick [0, 1] rfl (by rw [hi] <;> rfl)⟩
    · rcases hi with hi | hi
      · dsimp only at c1
        rw [hi] at c1
        exact (c1 g3.1).elim
      · exact ⟨(), fo_tv, ⟨rfl, rfl, fo_tv⟩, Ent.pick [0, 1] rfl (by rw [hi] <;> rfl)⟩
  · intro _ js _
    have e : (((x.i + 1 : Nat) : Int) == (x.i : Int)) = false := beq_false_of_ne (by omega)
    rw [e]
    exact ⟨⟨rfl, rfl⟩, (), fo_tv, rfl, Ent.pick [0, 1] rfl rfl⟩
theorem dgf_ok : fo_k 182 dgfC := fo 30 Tryz.func182 (λ_ _ => [(1, 1, .c pkfC [] []), (1, 5, .c pkfC [] []), (4, 1, .c nvrC [] [])]) [(0, 3, OH.q [LH.aq (0 : Nat)]), (2, 3, OH.q [LH.aq (0 : Nat)]), (3, 3, OH.q [LH.aq (0 : Nat)]), (2, 7, OH.w [LH.aq (0 : Nat)])] dgfInv dgfCut fo_o [] dgf_vc
abbrev nn1C (K : Ctx) : Con := { nnC K with cond := λx => x.s = ⟨#[0, 49]⟩ }
theorem two_bytes : ∀ {s : ByteArray}, s.size = 2 → s = ⟨#[UInt8.ofNat (bt s 0), UInt8.ofNat (bt s 1)]⟩
  | ⟨⟨[x, y]⟩⟩, _ => by simp [bt]
  | ⟨⟨[]⟩⟩, h => by cases h
  | ⟨⟨[_]⟩⟩, h => by cases h
  | ⟨⟨_ :: _ :: _ :: _⟩⟩, h => by simp [ByteArray.size] at h
theorem cg_one {w : ByteArray} {i : Nat} (h : jpkR0 w i = 49) : cgV w i (i + 1) = ⟨#[0, 49]⟩ := by
  unfold jpkR0 at h
  cases hd : decide (i < w.size / 2) with
  | false => rw [hd] at h; cases h
  | true =>
    have hi := fo_od1 hd
    rw [hd, fo_ct] at h
    unfold unitN at h
    rw [hd, fo_ct] at h
    unfold cgV
    rw [show min i (w.size / 2) = i by omega, show min (i + 1) (w.size / 2) = i + 1 by omega, fo_dt (show i < i + 1 by omega), fo_ct]
    have e := two_bytes (s := w.extract (2 * i) (2 * (i + 1))) (by rw [fo_se]; omega)
    rw [e, bt_extr (by omega) (by omega), bt_extr (by omega) (by omega), Nat.add_zero, show bt w (2 * i) = 0 by omega, show bt w (2 * i + 1) = 49 by omega] <;> rfl
structure NrfX where
  K : Ctx
  b : Nat
  w : ByteArray
  i : Nat
def nrfV (x : NrfX) : Value := .agg #[.int .i64 3, .float .f64 (x.K.nv (cgV x.w x.i (x.i + 1))), .string ⟨#[]⟩, .int .i64 0]
abbrev nrfC : Con where
  X := NrfX
  Y := Unit
  args x := [.pointer (some ⟨x.b, 0, none⟩)]
  pre x := [jrA x.b x.w x.i]
  cond x := (x.w.size ≤ 1048576 ∧ x.i ≤ 1048575 ∧ fo_k 184 (nn1C x.K)) ∧ jpkR0 x.w x.i = 49 ∧ jpkR0 x.w (x.i + 1) = 125
  rdc x F := x.K.rd F
  rel _ _ := True
  val x _ := .returned (nrfV x)
  post x _ := [jrA x.b x.w (x.i + 1)]
  rmono x _ _ hs h := x.K.mono h hs
abbrev pkkC (c : Int) : Con where
  X := JrX
  Y := Unit
  args x := [.pointer (some ⟨x.b, 0, none⟩)]
  pre _ := []
  cond x := x.w.size ≤ 1048576 ∧ x.i ≤ 1048576 ∧ jpkR0 x.w x.i = c
  rdc x F := JrIn x F
  rel _ _ := True
  val _ _ := .returned (.int .i64 c)
  post _ _ := []
  rmono _ _ _ hs h := h.sub hs
theorem pkk_ok {c : Int} : fo_k 83 (pkkC c) := ⟨λx F I w hc hr hs => (pkf_ok.h x F I w ⟨hc.1, hc.2.1⟩ hr hs).mono λe w' ⟨z, J, k1, k2, k3, k4, k5⟩ => ⟨z, J, k1, by rw [k2]; show returned (.int .i64 (jpkR0 x.w x.i)) = returned (.int .i64 c); rw [hc.2.2], k3, k4, k5⟩⟩
abbrev nfvC : Con where
  X := Nat
  Y := Unit
  args x := [.float .f64 x]
  pre _ := []
  cond _ := True
  rdc _ _ := True
  rel _ _ := True
  val x _ := .returned (.agg #[.int .i64 3, .float .f64 x, .string ⟨#[]⟩, .int .i64 0])
  post _ _ := []
abbrev q197 (x : Nat) : List Value := [fo_vi 3, float f64 x, fo_vs ⟨#[]⟩, fo_vi 0]
theorem nfv_vc (x : Nat) (F : Atom) (hc : nfvC.cond x) (hr : nfvC.rdc x F) :
 ∀(a : Nat), fo_sm a 0 ∧ fo_sm a 1 ∧ fo_sm a 2 ∧ fo_sm a 3 ∧ fo_sm a 0 ∧ fo_sm a 1 ∧ fo_sm a 2 ∧ fo_sm a 3 ∧ Done nfvC x F (fo_rt (agg ⟨q197 x⟩)) [(0, F), (1000, fo_cl a (q197 x) 30)] := by
  delta q197 fo_sm fo_vi fo_vs fo_cl fo_rt
  exact λb => ⟨⟨rfl, rfl⟩, ⟨rfl, rfl⟩, ⟨rfl, rfl⟩, ⟨rfl, rfl⟩, ⟨rfl, rfl⟩, ⟨rfl, rfl⟩, ⟨rfl, rfl⟩, ⟨rfl, rfl⟩, (), fo_tv, rfl, Ent.pick [0] rfl rfl⟩
theorem nfv_ok : fo_k 183 nfvC := fo 5 Tryz.func183 (λ_ _ => [(0, 0, .n 1000), (1, 2, .w [.aq 1000, .aq 1000, .aq 1000, .aq 1000])]) [] fo_i fo_i fo_o [LH.aq 1000, LH.aq 1000, LH.aq 1000, LH.aq 1000] nfv_vc
def nrfOv (_x : NrfX) (_F : Atom) : List (Nat × Nat × OH) := [(0, 0, .n 1000), (2, 1, .c (pkkC 49) [] []), (4, 1, .c (pkkC 49) [] []), (6, 1, .c dgfC [0] [0]), (7, 1, .c (pkkC 125) [] []), (10, 1, .c (pkkC 125) [] []), (10, 5, .c (pkkC 125) [] []), (15, 3, .q [.ex 0 .str]), (15, 8, .q [.ex 0 (.int .i64)]), (15, 9, .c cgC [] []), (15, 10, .c (nn1C _x.K) [] []), (15, 11, .c nfvC [] []), (15, 12, .w [.aq 1000, .aq 1000, .aq 1000, .aq 1000])]
def T98 := fo_C2 83 (pkkC (49 : Int)) (λw0 => w0.w.size ≤ 1048576 ∧ w0.i ≤ 1048576 ∧ jpkR0 w0.w w0.i = 49) JrIn
abbrev q188 (x : NrfX) : List Value := [fo_vp (some ⟨x.b, 0, none⟩)]
abbrev q296 (x : NrfX) (F : Atom) (u : Nat) := fo_aR [(0, fo_cl x.b [fo_vs x.w, fo_vi ↑x.i] 138), (1, F), (1000, fo_cl u q8 30)] []
def T99 := fo_C2 83 (pkkC (125 : Int)) (λw0 => w0.w.size ≤ 1048576 ∧ w0.i ≤ 1048576 ∧ jpkR0 w0.w w0.i = 125) JrIn
abbrev q148 (p : JrX) (F : Atom) (u : Nat) := fo_aR [(0, fo_cl p.b (q67 p) 138), (1, F), (1000, fo_cl u q8 30)] []
theorem nrf_vc (x : NrfX) (F : Atom) (hc : nrfC.cond x) (hr : nrfC.rdc x F) :
 ∀(u : Nat), fo_sm x.b 1 ∧ T98 (q188 x) (q296 x F u) (λt s => T98 (q188 x) (q296 x F u) (λr q => fo_C3 182 dgfC (λp => p.w.size ≤ 1048576 ∧ p.i ≤ 1048575 ∧ jdg (jpkR0 p.w p.i) = true ∧ jdg (jpkR0 p.w (p.i + 1)) = false) (q188 x) [fo_cl x.b [fo_vs x.w, fo_vi ↑x.i] 138] (λp o => T99 (q188 x) (q148 p F u) (λn m => T99 (q188 x) (q148 p F u) (λl k => T99 (q188 x) (q148 p F u) (λj i => true = true ∧ T25 (fo_cl p.b (q67 p) 138) ⟨x.b, 0, none⟩ (λh => T60 (fo_cl p.b (q67 p) 138) ⟨x.b, 1, none⟩ (λg => T92 [fo_vs h, fo_vi ↑x.i, fo_vi g] (λf e => fo_C2 184 (nn1C x.K) (λd => d.s = (ByteArray.mk #[0, 49])) (λ_ rr => x.K.3 rr) [fo_vs (cgV f.w f.i f.j)] (q148 p F u) (λd c => fo_C0 183 nfvC [float f64 (x.K.nv d.s)] (λb a => fo_sm u 0 ∧ fo_sm u 1 ∧ fo_sm u 2 ∧ fo_sm u 3 ∧ fo_sm u 0 ∧ fo_sm u 1 ∧ fo_sm u 2 ∧ fo_sm u 3 ∧ Done nrfC x F (fo_rt (agg ⟨q197 b⟩)) [(0, fo_cl p.b (q67 p) 138), (1, F), (1000, fo_cl u (q197 b) 30)]))))))))))) := by
  delta T98 q188 q8 q296 T99 q67 q148 T25 T60 T92 q197 fo_aR fo_sm fo_C0 fo_C1 fo_C2 fo_C3 fo_vi fo_vs fo_vp fo_cl fo_rt
  obtain ⟨⟨h1, h2, hN⟩, h3, h4⟩ := hc
  have hr : x.K.rd F := hr
  have J : ∀ (k : Nat) (A : Atom), JrIn ⟨x.b, x.w, k, ⟨#[]⟩, 0⟩ (.pred (rest [(0, jrA x.b x.w k), (1, F), (1000, A)] [])) := λk A => JrIn.sub (sub_rest 0 (by simp) rfl) (.jr ⟨x.b, x.w, k, ⟨#[]⟩, 0⟩)
  intro b
  exact ⟨⟨rfl, rfl⟩, pkk_ok, rfl, ⟨x.b, x.w, x.i, ⟨#[]⟩, 0⟩, rfl, rfl, ⟨h1, by dsimp only; omega, h3⟩, J _ _, λ_ _ => ⟨pkk_ok, rfl, ⟨x.b, x.w, x.i, ⟨#[]⟩, 0⟩, rfl, rfl, ⟨h1, by dsimp only; omega, h3⟩, J _ _, λ_ _ => ⟨dgf_ok, rfl, ⟨x.b, x.w, x.i, ⟨#[]⟩, 0⟩, rfl, rfl, ⟨h1, h2, by rw [show jpkR0 x.w x.i = 49 from h3] <;> rfl, by rw [show jpkR0 x.w (x.i + 1) = 125 from h4] <;> rfl⟩, fo_tv, λ_ _ =>
    ⟨pkk_ok, rfl, ⟨x.b, x.w, x.i + 1, ⟨#[]⟩, 0⟩, rfl, rfl, ⟨h1, by dsimp only; omega, h4⟩, J _ _, λ_ _ => ⟨pkk_ok, rfl, ⟨x.b, x.w, x.i + 1, ⟨#[]⟩, 0⟩, rfl, rfl, ⟨h1, by dsimp only; omega, h4⟩, J _ _, λ_ _ => ⟨pkk_ok, rfl, ⟨x.b, x.w, x.i + 1, ⟨#[]⟩, 0⟩, rfl, rfl, ⟨h1, by dsimp only; omega, h4⟩, J _ _, λ_ _ =>
    ⟨rfl, x.w, Look.cells rfl, ((x.i + 1 : Nat) : Int), Look.cells rfl, cg_ok, rfl, ⟨x.w, x.i, x.i + 1⟩, rfl, rfl, ⟨h1, by dsimp only; omega, by dsimp only; omega⟩, fo_tv, λ_ _ => ⟨hN, rfl, ⟨cgV x.w x.i (x.i + 1)⟩, rfl, rfl, cg_one h3, x.K.mono hr (sub_rest 1 (by simp) rfl), λ_ _ => ⟨nfv_ok, rfl, x.K.nv (cgV x.w x.i (x.i + 1)), rfl, rfl, fo_tv, fo_tv, λ_ _ => ⟨⟨rfl, rfl⟩, ⟨rfl, rfl⟩, ⟨rfl, rfl⟩, ⟨rfl, rfl⟩, ⟨rfl, rfl⟩, ⟨rfl, rfl⟩, ⟨rfl, rfl⟩, ⟨rfl, rfl⟩, (), fo_tv, rfl, Ent.pick [0, 1] rfl rfl⟩⟩⟩⟩⟩⟩⟩⟩⟩⟩
theorem nrf_ok : fo_k 131 nrfC := fo 86 Tryz.func131 nrfOv [(1, 3, OH.q [LH.aq (0 : Nat)])] fo_i fo_i fo_o [LH.aq 1000, LH.aq 1000, LH.aq 1000, LH.aq 1000] nrf_vc
end
section
open Go
set_option maxHeartbeats 1000000
def lfL (v : Pv) : List Value := [.int .i64 v.k, .float .f64 v.f, .string v.s, .int .i64 0, .bool false, .slice none 0 0, .slice none 0 0, .bool false]
def lfV (v : Pv) : Value := .agg (lfL v).toArray
structure VtX where
  E : EscF
  b : Nat
  w : ByteArray
  i : Nat
  d : Int
  j : Nat
  o : ByteArray
abbrev vtC : Con where
  X := VtX
  Y := Unit
  args x := [.pointer (some ⟨x.b, 0, none⟩), .int .i64 x.d]
  pre x := [jrA x.b x.w x.i]
  cond x := (x.w.size ≤ 1048576 ∧ x.i ≤ 1048575 ∧ fo_k 180 (esfC x.E)) ∧ jpkR0 x.w x.i = 34 ∧ jtx x.E x.w (x.w.size + 1) (x.i + 1) ⟨#[]⟩ = some (x.j, x.o) ∧ x.j ≤ 1048576 ∧ isBk (jpkR0 x.w x.j) = false
  rdc _ _ := True
  rel _ _ := True
  val x _ := .returned (lfV (.t x.o))
  post x _ := [jrA x.b x.w x.j]
def T100 := fo_C2 126 blfC (λw0 => w0.w.size ≤ 1048576 ∧ w0.i ≤ 1048576 ∧ isBk (jpkR0 w0.w w0.i) = false) JrIn
abbrev q276 (x : VtX) : List Value := [fo_vp (some ⟨x.b, 0, none⟩)]
abbrev q2 : List Value := [fo_vi 0, float f64 0, fo_vs ⟨#[]⟩, fo_vi 0, fo_vb false, fo_vl none 0 0, fo_vl none 0 0, fo_vb false]
def T101 := fo_C2 83 (pkkC (34 : Int)) (λw0 => w0.w.size ≤ 1048576 ∧ w0.i ≤ 1048576 ∧ jpkR0 w0.w w0.i = 34) JrIn
def T102 := fo_C3 128 txfC (λw0 => (w0.w.size ≤ 1048576 ∧ w0.i ≤ 1048575 ∧ fo_k 180 (esfC w0.E)) ∧ jpkR0 w0.w w0.i = 34 ∧ jtx w0.E w0.w (w0.w.size + 1) (w0.i + 1) q59 = some (w0.j, w0.o))
abbrev q291 (f : TxfX) : List Value := [fo_vs f.w, fo_vi ↑f.j]
abbrev q103 (d : ByteArray) : List Value := [fo_vi 4, float f64 0, fo_vs d, fo_vi 0, fo_vb false, fo_vl none 0 0, fo_vl none 0 0, fo_vb false]
theorem vt_vc (x : VtX) (F : Atom) (hc : vtC.cond x) (hr : vtC.rdc x F) :
 ∀(l : Nat), T100 (q276 x) (fo_aR [(0, fo_cl x.b [fo_vs x.w, fo_vi ↑x.i] 138), (1, F), (1000, fo_cl l q2 141)] []) (λk j => ∀(i : Nat), fo_s5 i (fo_sm i 5 ∧ fo_sm i 6 ∧ fo_sm i 7 ∧ T101 (q276 x) (fo_aR [(0, fo_cl x.b [fo_vs x.w, fo_vi ↑x.i] 138), (1, F), (1000, fo_cl l q2 141), (2001, fo_cl i q2 141)] []) (λh g => T102 (q276 x) [fo_cl x.b [fo_vs x.w, fo_vi ↑x.i] 138] (λf e => T70 [fo_vs f.o] (λd c => fo_sm i 0 ∧ fo_sm i 1 ∧ fo_sm i 2 ∧ fo_sm i 3 ∧ T100 (q276 x) (fo_aR [(0, fo_cl f.b (q291 f) 138), (1, F), (1000, fo_cl l q2 141), (2001, fo_cl i (q103 d) 141)] []) (λb a => fo_s5 i (fo_sm i 5 ∧ fo_sm i 6 ∧ fo_sm i 7 ∧ fo_s5 l (fo_sm l 5 ∧ fo_sm l 6 ∧ fo_sm l 7 ∧ fo_s5 l (fo_sm l 5 ∧ fo_sm l 6 ∧ fo_sm l 7 ∧ Done vtC x F (fo_rt (agg ⟨q103 d⟩)) [(0, fo_cl f.b (q291 f) 138), (1, F), (1000, fo_cl l (q103 d) 141), (2001, fo_cl i (q103 d) 141)]))))))))) := by
  delta T100 q276 q2 T101 q59 T102 T70 q291 q103 fo_aR fo_sm fo_s5 fo_C0 fo_C2 fo_C3 fo_vi fo_vs fo_vb fo_vp fo_vl fo_cl fo_rt
  obtain ⟨⟨h1, h2, hE⟩, h3, h4, h5, h6⟩ := hc
  intro b
  exact ⟨blf_ok, rfl, ⟨x.b, x.w, x.i, ⟨#[]⟩, 0⟩, rfl, rfl, ⟨h1, by dsimp only; omega, by rw [show jpkR0 x.w x.i = 34 from h3] <;> rfl⟩, JrIn.sub (sub_rest 0 (by simp) rfl) (.jr ⟨x.b, x.w, x.i, ⟨#[]⟩, 0⟩), λ_ _ b1 => ⟨⟨rfl, rfl⟩, ⟨rfl, rfl⟩, ⟨rfl, rfl⟩, ⟨rfl, rfl⟩, ⟨rfl, rfl⟩, ⟨rfl, rfl⟩, ⟨rfl, rfl⟩, ⟨rfl, rfl⟩, pkk_ok, rfl, ⟨x.b, x.w, x.i, ⟨#[]⟩, 0⟩, rfl, rfl, ⟨h1, by dsimp only; omega, h3⟩, JrIn.sub (sub_rest 0 (by simp) rfl) (.jr ⟨x.b, x.w, x.i, ⟨#[]⟩, 0⟩), λ_ _ => ⟨txf_ok, rfl, ⟨x.E, x.b, x.w, x.i, x.j, x.o⟩, rfl, rfl, ⟨⟨h1, h2, hE⟩, h3, h4⟩, fo_tv, λ_ _ => ⟨tf_ok, rfl, x.o, rfl, rfl, fo_tv, fo_tv, λ_ _ => ⟨⟨rfl, rfl⟩, ⟨rfl, rfl⟩, ⟨rfl, rfl⟩, ⟨rfl, rfl⟩, blf_ok, rfl, ⟨x.b, x.w, x.j, ⟨#[]⟩, 0⟩, rfl, rfl, ⟨h1, h5, h6⟩, JrIn.sub (sub_rest 0 (by simp) rfl) (.jr ⟨x.b, x.w, x.j, ⟨#[]⟩, 0⟩), λ_ _ => ⟨⟨rfl, rfl⟩, ⟨rfl, rfl⟩, ⟨rfl, rfl⟩, ⟨rfl, rfl⟩, ⟨rfl, rfl⟩, ⟨rfl, rfl⟩, ⟨rfl, rfl⟩, ⟨rfl, rfl⟩, ⟨rfl, rfl⟩, ⟨rfl, rfl⟩, ⟨rfl, rfl⟩, ⟨rfl, rfl⟩, ⟨rfl, rfl⟩, ⟨rfl, rfl⟩, ⟨rfl, rfl⟩, ⟨rfl, rfl⟩, ⟨rfl, rfl⟩, ⟨rfl, rfl⟩, ⟨rfl, rfl⟩, ⟨rfl, rfl⟩, ⟨rfl, rfl⟩, ⟨rfl, rfl⟩, ⟨rfl, rfl⟩, ⟨rfl, rfl⟩, (), fo_tv, rfl, Ent.pick [0, 1] rfl rfl⟩⟩⟩⟩⟩⟩
theorem vt_ok : fo_k 82 vtC := fo 57 Tryz.func82 (λ_ _ => [(0, 0, .n 1000), (1, 1, .c blfC [] []), (2, 1, .n 2001), (2, 2, .w [.aq 2001, .aq 2001, .aq 2001, .aq 2001, .aq 2001, .aq 2001, .aq 2001, .aq 2001]), (3, 1, .c (pkkC 34) [] []), (10, 1, .c txfC [0] [0]), (10, 2, .c tfC [] []), (10, 4, .w [.aq 2001, .aq 2001, .aq 2001, .aq 2001]), (17, 1, .c blfC [] []), (18, 1, .w [.aq 1000, .aq 1000, .aq 1000, .aq 1000, .aq 1000, .aq 1000, .aq 1000, .aq 1000])]) [(18, 0, OH.q [LH.aq (2001 : Nat), LH.aq (2001 : Nat), LH.aq (2001 : Nat), LH.aq (2001 : Nat), LH.aq (2001 : Nat), LH.aq (2001 : Nat), LH.aq (2001 : Nat), LH.aq (2001 : Nat)])] fo_i fo_i fo_o [LH.aq 1000, LH.aq 1000, LH.aq 1000, LH.aq 1000, LH.aq 1000, LH.aq 1000, LH.aq 1000, LH.aq 1000] vt_vc
def lfL0 : List Value := [.int .i64 0, .float .f64 0, .string ⟨#[]⟩, .int .i64 0, .bool false, .slice none 0 0, .slice none 0 0, .bool false]
structure VnX where
  K : Ctx
  b : Nat
  w : ByteArray
  i : Nat
  d : Int
def vnV (x : VnX) : Pv := .n (x.K.nv (cgV x.w x.i (x.i + 1)))
abbrev vnC : Con where
  X := VnX
  Y := Unit
  args x := [.pointer (some ⟨x.b, 0, none⟩), .int .i64 x.d]
  pre x := [jrA x.b x.w x.i]
  cond x := (x.w.size ≤ 1048576 ∧ x.i ≤ 1048575 ∧ fo_k 184 (nn1C x.K)) ∧ jpkR0 x.w x.i = 49 ∧ jpkR0 x.w (x.i + 1) = 125 ∧ cgV x.w x.i (x.i + 4) ≠ wideV ⟨#[110, 117, 108, 108]⟩ ∧ cgV x.w x.i (x.i + 4) ≠ wideV ⟨#[116, 114, 117, 101]⟩ ∧ cgV x.w x.i (x.i + 5) ≠ wideV ⟨#[102, 97, 108, 115, 101]⟩
  rdc x F := x.K.rd F ∧ Utf F
  rel _ _ := True
  val x _ := .returned (lfV (vnV x))
  post x _ := [jrA x.b x.w (x.i + 1)]
  rmono x _ _ hs h := ⟨x.K.mono h.1 hs, h.2.sub hs⟩
abbrev q243 (x : VnX) : Option Addr := some ⟨x.b, 0, none⟩
abbrev q72 (x : VnX) (F : Atom) (p m : Nat) := [(0, fo_cl x.b [fo_vs x.w, fo_vi ↑x.i] 138), (1, F), (1000, fo_cl p q2 141), (2001, fo_cl m q2 141)]
def T103 := fo_C2 129 wrdC2 (λw0 => w0.w.size ≤ 1048576 ∧ w0.i ≤ 1048576 ∧ w0.s.size ≤ 1048576 ∧ cgV w0.w w0.i (w0.i + w0.s.size) ≠ wideV w0.s) (λw0 w1 => JrIn w0 w1 ∧ Utf w1)
abbrev q68 (d : NrfX) : List Value := [fo_vi 3, float f64 (d.K.nv (cgV d.w d.i (d.i + 1))), fo_vs ⟨#[]⟩, fo_vi 0, fo_vb false, fo_vl none 0 0, fo_vl none 0 0, fo_vb false]
theorem vn_vc (x : VnX) (F : Atom) (hc : vnC.cond x) (hr : vnC.rdc x F) :
 ∀(p : Nat), T100 [fo_vp (q243 x)] (fo_aR [(0, fo_cl x.b [fo_vs x.w, fo_vi ↑x.i] 138), (1, F), (1000, fo_cl p q2 141)] []) (λo n => ∀(m : Nat), fo_s5 m (fo_sm m 5 ∧ fo_sm m 6 ∧ fo_sm m 7 ∧ T98 [fo_vp (q243 x)] (fo_aR (q72 x F p m) []) (λl k => T103 [fo_vp (q243 x), fo_vs ⟨#[110, 117, 108, 108]⟩] (fo_aR (q72 x F p m) []) (λj i => T103 [fo_vp (q243 x), fo_vs ⟨#[116, 114, 117, 101]⟩] (fo_aR (q72 x F p m) []) (λh g => T103 [fo_vp (q243 x), fo_vs ⟨#[102, 97, 108, 115, 101]⟩] (fo_aR (q72 x F p m) []) (λf e => fo_C4 131 nrfC (λd => (d.w.size ≤ 1048576 ∧ d.i ≤ 1048575 ∧ fo_k 184 (nn1C d.K)) ∧ jpkR0 d.w d.i = 49 ∧ jpkR0 d.w (d.i + 1) = 125) (λd rr => d.K.3 rr) (λ_ _ => True) [fo_vp (q243 x)] [fo_cl x.b [fo_vs x.w, fo_vi ↑x.i] 138] (fo_aR (q72 x F p m) [0]) (λd c => fo_sm m 0 ∧ fo_sm m 1 ∧ fo_sm m 2 ∧ fo_sm m 3 ∧ T100 [fo_vp (q243 x)] (fo_aR [(0, fo_cl d.b [fo_vs d.w, fo_vi (↑(d.i + 1) : Int)] 138), (1, F), (1000, fo_cl p q2 141), (2001, fo_cl m (q68 d) 141)] []) (λb a => fo_s5 m (fo_sm m 5 ∧ fo_sm m 6 ∧ fo_sm m 7 ∧ fo_s5 p (fo_sm p 5 ∧ fo_sm p 6 ∧ fo_sm p 7 ∧ fo_s5 p (fo_sm p 5 ∧ fo_sm p 6 ∧ fo_sm p 7 ∧ Done vnC x F (fo_rt (agg ⟨q68 d⟩)) [(0, fo_cl d.b [fo_vs d.w, fo_vi (↑(d.i + 1) : Int)] 138), (1, F), (1000, fo_cl p (q68 d) 141), (2001, fo_cl m (q68 d) 141)]))))))))))) := by
  delta T100 q243 q2 T98 q72 T103 q68 fo_aR fo_sm fo_s5 fo_C2 fo_C4 fo_vi fo_vs fo_vb fo_vp fo_vl fo_cl fo_rt
  obtain ⟨⟨h1, h2, hN⟩, h3, h4, g1, g2, g3⟩ := hc
  obtain ⟨hr, hu⟩ := hr
  have hr : x.K.rd F := hr
  intro b
  refine ⟨blf_ok, rfl, ⟨x.b, x.w, x.i, ⟨#[]⟩, 0⟩, rfl, rfl, ⟨h1, by dsimp only; omega, by rw [show jpkR0 x.w x.i = 49 from h3] <;> rfl⟩, JrIn.sub (sub_rest 0 (by simp) rfl) (.jr ⟨x.b, x.w, x.i, ⟨#[]⟩, 0⟩), λ_ _ b1 => ?_⟩
  have j0 : ∀ (s : ByteArray), JrIn ⟨x.b, x.w, x.i, s, 0⟩ (.pred (rest (ofL [jrA x.b x.w x.i, F] ++ [(1000, .cells b lfL0 141), (2001, .cells b1 lfL0 141)]) [])) := λs => JrIn.sub (sub_rest 0 (by simp) rfl) (JrIn.jr ⟨x.b, x.w, x.i, s, 0⟩)
  exact ⟨⟨rfl, rfl⟩, ⟨rfl, rfl⟩, ⟨rfl, rfl⟩, ⟨rfl, rfl⟩, ⟨rfl, rfl⟩, ⟨rfl, rfl⟩, ⟨rfl, rfl⟩, ⟨rfl, rfl⟩, pkk_ok, rfl, ⟨x.b, x.w, x.i, ⟨#[]⟩, 0⟩, rfl, rfl, ⟨h1, by dsimp only; omega, h3⟩, j0 _, λ_ _ => ⟨wrd2_ok, rfl, ⟨x.b, x.w, x.i, ⟨#[110, 117, 108, 108]⟩, 0⟩, rfl, rfl, ⟨h1, by dsimp only; omega, by dsimp only; decide, g1⟩, ⟨j0 _, Utf.rest (j := 1) (by simp) hu⟩, λ_ _ => ⟨wrd2_ok, rfl, ⟨x.b, x.w, x.i, ⟨#[116, 114, 117, 101]⟩, 0⟩, rfl, rfl, ⟨h1, by dsimp only; omega, by dsimp only; decide, g2⟩, ⟨j0 _, Utf.rest (j := 1) (by simp) hu⟩, λ_ _ => ⟨wrd2_ok, rfl, ⟨x.b, x.w, x.i, ⟨#[102, 97, 108, 115, 101]⟩, 0⟩, rfl, rfl, ⟨h1, by dsimp only; omega, by dsimp only; decide, g3⟩, ⟨j0 _, Utf.rest (j := 1) (by simp) hu⟩, λ_ _ => ⟨nrf_ok, rfl, ⟨x.K, x.b, x.w, x.i⟩, rfl, rfl, ⟨⟨h1, h2, hN⟩, h3, h4⟩, x.K.mono hr (sub_rest 1 (by simp) rfl), λ_ _ => ⟨⟨rfl, rfl⟩, ⟨rfl, rfl⟩, ⟨rfl, rfl⟩, ⟨rfl, rfl⟩, blf_ok, rfl, ⟨x.b, x.w, x.i + 1, ⟨#[]⟩, 0⟩, rfl, rfl, ⟨h1, by dsimp only; omega, by rw [show jpkR0 x.w (x.i + 1) = 125 from h4] <;> rfl⟩, JrIn.sub (sub_rest 0 (by simp) rfl) (.jr ⟨x.b, x.w, x.i + 1, ⟨#[]⟩, 0⟩), λ_ _ => ⟨⟨rfl, rfl⟩, ⟨rfl, rfl⟩, ⟨rfl, rfl⟩, ⟨rfl, rfl⟩, ⟨rfl, rfl⟩, ⟨rfl, rfl⟩, ⟨rfl, rfl⟩, ⟨rfl, rfl⟩, ⟨rfl, rfl⟩, ⟨rfl, rfl⟩, ⟨rfl, rfl⟩, ⟨rfl, rfl⟩, ⟨rfl, rfl⟩, ⟨rfl, rfl⟩, ⟨rfl, rfl⟩, ⟨rfl, rfl⟩, ⟨rfl, rfl⟩, ⟨rfl, rfl⟩, ⟨rfl, rfl⟩, ⟨rfl, rfl⟩, ⟨rfl, rfl⟩, ⟨rfl, rfl⟩, ⟨rfl, rfl⟩, ⟨rfl, rfl⟩, (), fo_tv, rfl, Ent.pick [0, 1] rfl rfl⟩⟩⟩⟩⟩⟩⟩
theorem vn_ok : fo_k 82 vnC := fo 57 Tryz.func82 (λ_ _ => [(0, 0, .n 1000), (1, 1, .c blfC [] []), (2, 1, .n 2001), (2, 2, .w [.aq 2001, .aq 2001, .aq 2001, .aq 2001, .aq 2001, .aq 2001, .aq 2001, .aq 2001]), (3, 1, .c (pkkC 49) [] []), (11, 1, .c wrdC2 [] []), (13, 1, .c wrdC2 [] []), (15, 1, .c wrdC2 [] []), (4, 1, .c nrfC [0] [0]), (4, 3, .w [.aq 2001, .aq 2001, .aq 2001, .aq 2001]), (17, 1, .c blfC [] []), (18, 1, .w [.aq 1000, .aq 1000, .aq 1000, .aq 1000, .aq 1000, .aq 1000, .aq 1000, .aq 1000])]) [(18, 0, OH.q [LH.aq (2001 : Nat), LH.aq (2001 : Nat), LH.aq (2001 : Nat), LH.aq (2001 : Nat), LH.aq (2001 : Nat), LH.aq (2001 : Nat), LH.aq (2001 : Nat), LH.aq (2001 : Nat)])] fo_i fo_i fo_o [LH.aq 1000, LH.aq 1000, LH.aq 1000, LH.aq 1000, LH.aq 1000, LH.aq 1000, LH.aq 1000, LH.aq 1000] vn_vc
end
section
open Go
set_option maxHeartbeats 1000000
structure RdK where
  K : Ctx
  E : EscF
structure RdK.ok (k : RdK) : Prop where
  e : fo_k 180 (esfC k.E)
  n : fo_k 184 (nn1C k.K)
structure VlX where
  k : RdK
  b : Nat
  w : ByteArray
  i : Nat
  d : Int
  v : Pv
  j : Nat
inductive VlAt (k : RdK) (w : ByteArray) (i : Nat) : Pv → Nat → Prop
  | t (j : Nat) (o : ByteArray) : jpkR0 w i = 34 → jtx k.E w (w.size + 1) (i + 1) ⟨#[]⟩ = some (j, o) → j ≤ 1048576 → isBk (jpkR0 w j) = false → VlAt k w i (.t o) j
  | n : jpkR0 w i = 49 → jpkR0 w (i + 1) = 125 → cgV w i (i + 4) ≠ wideV ⟨#[110, 117, 108, 108]⟩ → cgV w i (i + 4) ≠ wideV ⟨#[116, 114, 117, 101]⟩ → cgV w i (i + 5) ≠ wideV ⟨#[102, 97, 108, 115, 101]⟩ → VlAt k w i (.n (k.K.nv (cgV w i (i + 1)))) (i + 1)
abbrev vlC : Con where
  X := VlX
  Y := Unit
  args x := [.pointer (some ⟨x.b, 0, none⟩), .int .i64 x.d]
  pre x := [jrA x.b x.w x.i]
  cond x := x.w.size ≤ 1048576 ∧ x.i ≤ 1048575 ∧ x.k.ok ∧ VlAt x.k x.w x.i x.v x.j
  rdc x F := x.k.K.rd F ∧ Utf F
  rel _ _ := True
  val x _ := .returned (lfV x.v)
  post x _ := [jrA x.b x.w x.j]
  rmono x _ _ hs h := ⟨x.k.K.mono h.1 hs, h.2.sub hs⟩
theorem vl_ok : fo_k 82 vlC := ⟨λx F I w hc hr hs => by
  obtain ⟨k, b, ws, i, d, v, j⟩ := x
  obtain ⟨h1, h2, h3, h4⟩ := hc
  have h4 : VlAt k ws i v j := h4
  cases h4 with
  | t j o a1 a2 a3 a4 => exact vt_ok.h ⟨k.E, b, ws, i, d, j, o⟩ F I w ⟨⟨h1, h2, h3.e⟩, a1, a2, a3, a4⟩ trivial hs
  | n a1 a2 a3 a4 a5 => exact vn_ok.h ⟨k.K, b, ws, i, d⟩ F I w ⟨⟨h1, h2, h3.n⟩, a1, a2, a3, a4, a5⟩ hr hs⟩
inductive ObAt (k : RdK) (w : ByteArray) : Nat → KVs → Nat → Prop
  | last (i i1 i2 : Nat) (s : ByteArray) (v : Pv) : jpkR0 w i = 34 → jtx k.E w (w.size + 1) (i + 1) ⟨#[]⟩ = some (i1, s) → i1 ≤ 1048570 → jpkR0 w i1 = 58 → VlAt k w (i1 + 1) v i2 → i2 ≤ 1048570 → jpkR0 w i2 = 125 → i ≤ 1048570 → ObAt k w i [(s, v)] (i2 + 1)
  | more (i i1 i2 j : Nat) (s : ByteArray) (v : Pv) (l : KVs) : jpkR0 w i = 34 → jtx k.E w (w.size + 1) (i + 1) ⟨#[]⟩ = some (i1, s) → i1 ≤ 1048570 → jpkR0 w i1 = 58 → VlAt k w (i1 + 1) v i2 → i2 ≤ 1048570 → jpkR0 w i2 = 44 → i ≤ 1048570 → ObAt k w (i2 + 1) l j → ObAt k w i ((s, v) :: l) j
theorem ObAt.hd {k : RdK} {w : ByteArray} {i j : Nat} {l : KVs} (h : ObAt k w i l j) : ∃ (i1 i2 : Nat) (s : ByteArray) (v : Pv) (r : KVs), l = (s, v) :: r ∧ jpkR0 w i = 34 ∧ jtx k.E w (w.size + 1) (i + 1) ⟨#[]⟩ = some (i1, s) ∧ i1 ≤ 1048570 ∧ jpkR0 w i1 = 58 ∧ VlAt k w (i1 + 1) v i2 ∧ i2 ≤ 1048570 ∧ i ≤ 1048570 ∧ ((r = [] ∧ jpkR0 w i2 = 125 ∧ j = i2 + 1) ∨ (jpkR0 w i2 = 44 ∧ ObAt k w (i2 + 1) r j)) := by
  cases h with
  | last _ i1 i2 s v a b c d e f g h => exact ⟨i1, i2, s, v, [], rfl, a, b, c, d, e, f, h, .inl ⟨rfl, g, rfl⟩⟩
  | more _ i1 i2 _ s v l a b c d e f g h q => exact ⟨i1, i2, s, v, l, rfl, a, b, c, d, e, f, h, .inr ⟨g, q⟩⟩
structure MnX where
  k : RdK
  b : Nat
  w : ByteArray
  i : Nat
  d : Int
  l : KVs
  j : Nat
structure MnY where
  kr : Row
  vr : Row
def lfsL (l : KVs) : List Value := l.flatMap λp => lfL p.2
theorem lfL_one (v : Pv) : ∀ u ∈ lfL v, u.oneCell' = true := by
  intro u hu
  simp only [lfL, List.mem_cons, List.not_mem_nil, or_false] at hu
  rcases hu with rfl | rfl | rfl | rfl | rfl | rfl | rfl | rfl <;> rfl
theorem lfsL_snoc (l : KVs) (p : ByteArray × Pv) : lfsL (l ++ [p]) = lfsL l ++ lfL p.2 := by simp [lfsL]
theorem ksL_snoc (l : KVs) (p : ByteArray × Pv) : ksL (l ++ [p]) = ksL l ++ [.string p.1] := by simp [ksL, strs]
structure MnY.ok (l : KVs) (y : MnY) : Prop where
  k : IsRow 9 1 (ksL l) y.kr
  v : IsRow 141 8 (lfsL l) y.vr
  kn : y.kr.n = l.length
  vn : y.vr.n = l.length
def mnV (y : MnY) : Value := .agg #[.int .i64 0, .float .f64 0, .string ⟨#[]⟩, .int .i64 0, .bool false, .slice y.kr.a y.kr.n y.kr.cap, .slice y.vr.a y.vr.n y.vr.cap, .bool true]
abbrev mnC : Con where
  X := MnX
  Y := MnY
  args x := [.pointer (some ⟨x.b, 0, none⟩), .bool false, .int .i64 x.d]
  pre x := [jrA x.b x.w x.i]
  cond x := x.w.size ≤ 1048576 ∧ x.i ≤ 1048570 ∧ x.k.ok ∧ ObAt x.k x.w (x.i + 1) x.l x.j ∧ x.l.length ≤ 1000000
  rdc x F := x.k.K.rd F ∧ Utf F
  rel x y := y.ok x.l
  val _ y := .returned (mnV y)
  post x y := [jrA x.b x.w x.j, y.kr.A, y.vr.A]
  rmono x _ _ hs h := ⟨x.k.K.mono h.1 hs, h.2.sub hs⟩
structure MnS where
  r : Nat
  n : Nat
  i : Nat
  o : KVs
  l : KVs
  y : MnY
structure MnS.ok (x : MnX) (d : MnS) : Prop where
  e : x.l = d.o ++ d.l
  a : ObAt x.k x.w d.i d.l x.j
  y : d.y.ok d.o
def mnInv (x : MnX) (F : Atom) : Nat → Option Inv := fun
  | 0 => some { X := MnS, P := λd => d.ok x, mu := λd => d.l.length, lv := λd => [(0, .pointer (some ⟨x.b, 0, none⟩)), (1, .bool false), (2, .int .i64 x.d), (6, .pointer (some ⟨d.r, 0, none⟩)), (7, .pointer (some ⟨d.n, 0, none⟩)), (8, .int .i64 125)], st := λd => [jrA x.b x.w d.i, F, .cells d.n [.int .i64 0, .float .f64 0, .string ⟨#[]⟩, .int .i64 0, .bool false, .slice d.y.kr.a d.y.kr.n d.y.kr.cap, .slice d.y.vr.a d.y.vr.n d.y.vr.cap, .bool true] 141, d.y.kr.A, d.y.vr.A, .cells d.r lfL0 141] }
  | _ => none
abbrev q121 (x : MnX) : Option Addr := some ⟨x.b, 0, none⟩
abbrev q288 (x : MnX) : List Value := [fo_vp (q121 x)]
abbrev q87 : List Value := [fo_vi 0, float f64 0, fo_vs ⟨#[]⟩, fo_vi 0, fo_vb false, fo_vl none 0 0, fo_vl none 0 0, fo_vb true]
abbrev q35 (x : MnX) (F : Atom) (D C : Nat) := [(0, fo_cl x.b [fo_vs x.w, fo_vi ((x.i : Int) + 1)] 138), (1, F), (1000, fo_cl D q2 141), (1020, fo_cl C q87 141)]
abbrev q187 (a : MnS) : List Value := [fo_vi 0, float f64 0, fo_vs ⟨#[]⟩, fo_vi 0, fo_vb false, fo_vl a.y.kr.a a.y.kr.n a.y.kr.cap, fo_vl a.y.vr.a a.y.vr.n a.y.vr.cap, fo_vb true]
abbrev q50 (x : MnX) (a : MnS) (F : Atom) := [(0, fo_cl x.b [fo_vs x.w, fo_vi ↑a.i] 138), (1, F), (2, fo_cl a.n (q187 a) 141), (3, a.y.kr.A), (4, a.y.vr.A), (5, fo_cl a.r q2 141)]
abbrev q117 (o : Row) (w : MnS) : List Value := [fo_vi 0, float f64 0, fo_vs ⟨#[]⟩, fo_vi 0, fo_vb false, fo_vl o.a o.n o.cap, fo_vl w.y.vr.a w.y.vr.n w.y.vr.cap, fo_vb true]
abbrev q329 (j : VlX) : List Value := [fo_vs j.w, fo_vi ↑j.j]
abbrev q86 (j : VlX) : List Value := [fo_vi j.v.k, float f64 j.v.f, fo_vs j.v.s, fo_vi 0, fo_vb false, fo_vl none 0 0, fo_vl none 0 0, fo_vb false]
abbrev q65 (o f : Row) : List Value := [fo_vi 0, float f64 0, fo_vs ⟨#[]⟩, fo_vi 0, fo_vb false, fo_vl o.a o.n o.cap, fo_vl f.a f.n f.cap, fo_vb true]
theorem mn_vc (x : MnX) (F : Atom) (hc : mnC.cond x) (hr : mnC.rdc x F) :
 ∀(D C : Nat), fo_s5 C (fo_sm C 5 ∧ fo_sm C 6 ∧ fo_sm C 7 ∧ fo_sm x.b 1 ∧ fo_rI ((x.i : Int) + 1) ∧ fo_sm x.b 1 ∧ T100 (q288 x) (fo_aR (q35 x F D C) []) (λB A => T101 (q288 x) (fo_aR (q35 x F D C) []) (λz y => (∃(a : MnS), MnS.ok x a ∧ (fo_vp (q121 x) = fo_vp (q121 x) ∧ fo_vb false = fo_vb false ∧ fo_vi x.d = fo_vi x.d ∧ fo_vp (q17 D) = fo_vp (some ⟨a.r, 0, none⟩) ∧ fo_vp (q17 C) = fo_vp (some ⟨a.n, 0, none⟩) ∧ fo_vi 125 = fo_vi 125 ∧ True) ∧ Ent (q35 x F D C) (q50 x a F)) ∧ fo_vA λ(w : MnS) _ => MnS.ok x w → T100 (q288 x) (fo_aR (q50 x w F) []) (λu t => true = true ∧ fo_sm w.n 5 ∧ T102 (q288 x) [fo_cl x.b [fo_vs x.w, fo_vi ↑w.i] 138] (λs r => ∀(q : Nat), T52 (opIn Tryz.f127 12 5) [fo_vl w.y.kr.a w.y.kr.n w.y.kr.cap, fo_vl (q17 q) 1 1] [w.y.kr.A] (fo_aR [(0, fo_cl s.b (q291 s) 138), (1, F), (2, fo_cl w.n (q187 w) 141), (3, w.y.kr.A), (4, w.y.vr.A), (5, fo_cl w.r q2 141), (12050, fo_cl q [fo_vs s.o] 9)] [3]) (λp o => fo_sm w.n 5 ∧ T100 (q288 x) (fo_aR [(0, fo_cl s.b (q291 s) 138), (1, F), (2, fo_cl w.n (q117 o w) 141), (3, o.A), (4, w.y.vr.A), (5, fo_cl w.r q2 141), (12050, fo_cl q [fo_vs s.o] 9)] []) (λn m => T93 [fo_vp (q121 x), fo_vi 58] [fo_cl s.b (q291 s) 138] (λl k => true = true ∧ fo_sm w.n 6 ∧ fo_C4 82 vlC (λj => j.w.size ≤ 1048576 ∧ j.i ≤ 1048575 ∧ j.k.ok ∧ VlAt j.k j.w j.i j.v j.j) (λj rr => j.k.K.3 rr ∧ Utf rr) (λ_ _ => True) [fo_vp (q121 x), fo_vi x.d] [fo_cl l.b (q67 l) 138] (fo_aR [(0, fo_cl l.b (q67 l) 138), (1, F), (2, fo_cl w.n (q117 o w) 141), (3, o.A), (4, w.y.vr.A), (5, fo_cl w.r q2 141), (12050, fo_cl q [fo_vs s.o] 9)] [0]) (λj i => ∀(h : Nat), fo_O4 (opIn Tryz.f127 15 6) (apC (141 : TypeId) 8 104) (λg => IsRow 141 8 g.cs g.r ∧ g.ys.length = g.m * 8 ∧ q169 g ∧ (g.r.n + g.m) * 104 ≤ 140737488355328 ∧ g.r.n + g.m ≤ 9223372036854775807 ∧ q261 g) (λg rr => q206 g rr) (λg f => IsRow 141 8 (g.cs ++ g.ys) f ∧ f.n = g.r.n + g.m ∧ (g.m = 0 → f = g.r)) [fo_vl w.y.vr.a w.y.vr.n w.y.vr.cap, fo_vl (q17 h) 1 1] [w.y.vr.A] (fo_aR [(0, fo_cl j.b (q329 j) 138), (1, F), (2, fo_cl w.n (q117 o w) 141), (3, o.A), (4, w.y.vr.A), (5, fo_cl w.r q2 141), (12050, fo_cl q [fo_vs s.o] 9), (15060, fo_cl h (q86 j) 141)] [4]) (λg f => fo_sm w.n 6 ∧ T90 (q288 x) (fo_aR [(0, fo_cl j.b (q329 j) 138), (1, F), (2, fo_cl w.n (q65 o f) 141), (3, o.A), (4, f.A), (5, fo_cl w.r q2 141), (12050, fo_cl q [fo_vs s.o] 9), (15060, fo_cl h (q86 j) 141)] []) (λe d => Br (jpkR0 e.w e.i == 125) (T60 (fo_cl j.b (q329 j) 138) ⟨x.b, 1, none⟩ (λa => fo_rI (a + 1) ∧ Same ⟨x.b, 1, none⟩ j.b ∧ fo_s5 w.n (fo_sm w.n 5 ∧ fo_sm w.n 6 ∧ fo_sm w.n 7 ∧ fo_s5 w.r (fo_sm w.r 5 ∧ fo_sm w.r 6 ∧ fo_sm w.r 7 ∧ fo_s5 w.r (fo_sm w.r 5 ∧ fo_sm w.r 6 ∧ fo_sm w.r 7 ∧ Done mnC x F (fo_rt (agg ⟨q65 o f⟩)) [(0, fo_cl j.b [fo_vs j.w, fo_vi (a + 1)] 138), (1, F), (2, fo_cl w.n (q65 o f) 141), (3, o.A), (4, f.A), (5, fo_cl w.r (q65 o f) 141), (12050, fo_cl q [fo_vs s.o] 9), (15060, fo_cl h (q86 j) 141)]))))) (T93 [fo_vp (q121 x), fo_vi 44] [fo_cl j.b (q329 j) 138] (λc b => ∃(a : MnS), MnS.ok x a ∧ (fo_vp (q121 x) = fo_vp (q121 x) ∧ fo_vb false = fo_vb false ∧ fo_vi x.d = fo_vi x.d ∧ fo_vp (some ⟨w.r, 0, none⟩) = fo_vp (some ⟨a.r, 0, none⟩) ∧ fo_vp (some ⟨w.n, 0, none⟩) = fo_vp (some ⟨a.n, 0, none⟩) ∧ fo_vi 125 = fo_vi 125 ∧ True) ∧ Ent [(0, fo_cl c.b (q67 c) 138), (1, F), (2, fo_cl w.n (q65 o f) 141), (3, o.A), (4, f.A), (5, fo_cl w.r q2 141), (12050, fo_cl q [fo_vs s.o] 9), (15060, fo_cl h (q86 j) 141)] (q50 x a F) ∧ List.length a.l < List.length w.l))))))))))))) := by
  delta T100 q121 q288 q2 q87 q35 T101 q17 q187 q50 q59 T102 q293 q261 q149 T52 q291 q117 T93 q67 q169 q206 q329 q86 T90 q65 T60 fo_aR fo_sm fo_rI fo_s5 fo_C2 fo_C3 fo_C4 fo_O4 fo_vi fo_vs fo_vb fo_vp fo_vl fo_cl fo_rt fo_vA
  obtain ⟨h1, h2, hk, hob, hl⟩ := hc
  obtain ⟨hr, hu⟩ := hr
  have hr : x.k.K.rd F := hr
  obtain ⟨a1, a2, ws, wv, wr, we, b1, b2, b3, b4, b5, b6, b7, b8⟩ := hob.hd
  intro b n
  refine ⟨⟨rfl, rfl⟩, ⟨rfl, rfl⟩, ⟨rfl, rfl⟩, ⟨rfl, rfl⟩, ⟨rfl, rfl⟩, ⟨rfl, rfl⟩, ⟨rfl, rfl⟩, ⟨rfl, rfl⟩, ⟨rfl, rfl⟩, ⟨by omega, by omega⟩, ⟨rfl, rfl⟩, blf_ok, rfl, ⟨x.b, x.w, x.i + 1, ⟨#[]⟩, 0⟩, rfl, rfl, ⟨h1, by dsimp only; omega, by rw [show jpkR0 x.w (x.i + 1) = 34 from b1] <;> rfl⟩, JrIn.sub (sub_rest 0 (by simp) rfl) (.jr ⟨x.b, x.w, x.i + 1, ⟨#[]⟩, 0⟩), λ_ _ => ⟨pkk_ok, rfl, ⟨x.b, x.w, x.i + 1, ⟨#[]⟩, 0⟩, rfl, rfl, ⟨h1, by dsimp only; omega, b1⟩, JrIn.sub (sub_rest 0 (by simp) rfl) (.jr ⟨x.b, x.w, x.i + 1, ⟨#[]⟩, 0⟩), λ_ _ => ⟨⟨⟨b, n, x.i + 1, [], x.l, ⟨nilRow, nilRow⟩⟩, ⟨rfl, hob, ⟨.nil rfl, .nil rfl, rfl, rfl⟩⟩, ⟨rfl, rfl, rfl, rfl, rfl, rfl, fo_tv⟩, Ent.pick [0, 1, 1020, 999, 998, 1000] rfl rfl⟩, ?_⟩⟩⟩
  clear hob a1 a2 ws wv wr we b1 b2 b3 b4 b5 b6 b7 b8 b n
  rintro ⟨r, n, i, o, l, ⟨kr, vr⟩⟩ js ⟨he, hob, ⟨hk1, hv1, hkn, hvn⟩⟩
  dsimp only at he hob hk1 hv1 hkn hvn ⊢
  obtain ⟨i1, i2, s, v, l2, rfl, b1, b2, b3, b4, b5, b6, b7, b8⟩ := hob.hd
  have hol : o.length + (l2.length + 1) ≤ 1000000 := by
    have : x.l.length = o.length + (l2.length + 1) := by rw [he, fo_la, fo_lc]
    omega
  refine ⟨blf_ok, rfl, ⟨x.b, x.w, i, ⟨#[]⟩, 0⟩, rfl, rfl, ⟨h1, by dsimp only; omega, by rw [show jpkR0 x.w i = 34 from b1] <;> rfl⟩, JrIn.sub (sub_rest 0 (by simp) rfl) (.jr ⟨x.b, x.w, i, ⟨#[]⟩, 0⟩), λ_ _ => ⟨rfl, ⟨rfl, rfl⟩, txf_ok, rfl, ⟨x.k.E, x.b, x.w, i, i1, s⟩, rfl, rfl, ⟨⟨h1, by dsimp only; omega, hk.e⟩, b1, b2⟩, fo_tv, λ_ _ kb => ⟨append_ok (P := Tryz.prog) 1 16 rfl rfl rfl rfl rfl rfl rfl (by decide), rfl, ⟨kr, ksL o, some ⟨kb, 0, none⟩, 1, 1, [.string s]⟩, rfl, rfl, ⟨hk1, rfl, λu hu => by rw [List.mem_singleton.1 hu] <;> rfl, by dsimp only; omega, by dsimp only; omega, λh => nomatch h⟩, ?_, λkr2 hk2 => ?_⟩⟩⟩
  · intro a ha
    cases ha
    exact Seg.rest (j := 12050) (by simp) (Seg.cells (λj u hj => by rw [fo_za]; exact hj))
  obtain ⟨hk2, hk3, -⟩ := hk2
  dsimp only at hk2 hk3
  refine ⟨⟨rfl, rfl⟩, blf_ok, rfl, ⟨x.b, x.w, i1, ⟨#[]⟩, 0⟩, rfl, rfl, ⟨h1, by dsimp only; omega, by rw [show jpkR0 x.w i1 = 58 from b4] <;> rfl⟩, JrIn.sub (sub_rest 0 (by simp) rfl) (.jr ⟨x.b, x.w, i1, ⟨#[]⟩, 0⟩), λ_ _ => ⟨mst_ok, rfl, ⟨x.b, x.w, i1, ⟨#[]⟩, 58⟩, rfl, rfl, ⟨h1, by dsimp only; omega, b4⟩, fo_tv, λ_ _ => ⟨rfl, ⟨rfl, rfl⟩, vl_ok, rfl, ⟨x.k, x.b, x.w, i1 + 1, x.d, v, i2⟩, rfl, rfl, ⟨h1, by dsimp only; omega, hk, b5⟩, ⟨x.k.K.mono hr (sub_rest 1 (by simp) rfl), Utf.rest (j := 1) (by simp) hu⟩, λ_ _ vb => ⟨append_ok (P := Tryz.prog) 8 104 rfl rfl rfl rfl rfl rfl rfl (by decide), rfl, ⟨vr, lfsL o, some ⟨vb, 0, none⟩, 1, 1, lfL v⟩, rfl, rfl, ⟨hv1, rfl, lfL_one v, by dsimp only; omega, by dsimp only; omega, λh => nomatch h⟩, ?_, λvr2 hv2 => ?_⟩⟩⟩⟩
  · intro a ha
    cases ha
    exact Seg.rest (j := 15060) (by simp) (Seg.cells (λj u hj => by rw [fo_za]; exact hj))
  obtain ⟨hv2, hv3, -⟩ := hv2
  dsimp only at hv2 hv3
  have hy : MnY.ok (o ++ [(s, v)]) ⟨kr2, vr2⟩ := ⟨by rw [ksL_snoc]; exact hk2, by rw [lfsL_snoc]; exact hv2, by rw [fo_la, fo_l1]; dsimp only; omega, by rw [fo_la, fo_l1]; dsimp only; omega⟩
  refine ⟨⟨rfl, rfl⟩, pkf_ok, rfl, ⟨x.b, x.w, i2, ⟨#[]⟩, 0⟩, rfl, rfl, ⟨h1, by dsimp only; omega⟩, JrIn.sub (sub_rest 0 (by simp) rfl) (.jr ⟨x.b, x.w, i2, ⟨#[]⟩, 0⟩), λ_ _ => br_intro (λc => ?_) (λc => ?_)⟩
  · have c : (jpkR0 x.w i2 == 125) = true := c
    have c : jpkR0 x.w i2 = 125 := by simpa using c
    rcases b8 with ⟨rfl, -, hj⟩ | ⟨d, -⟩
    · refine ⟨i2, Look.cells rfl, ⟨by omega, by omega⟩, ⟨rfl, rfl⟩, ⟨rfl, rfl⟩, ⟨rfl, rfl⟩, ⟨rfl, rfl⟩, ⟨rfl, rfl⟩, ⟨rfl, rfl⟩, ⟨rfl, rfl⟩, ⟨rfl, rfl⟩, ⟨rfl, rfl⟩, ⟨rfl, rfl⟩, ⟨rfl, rfl⟩, ⟨rfl, rfl⟩, ⟨rfl, rfl⟩, ⟨rfl, rfl⟩, ⟨rfl, rfl⟩, ⟨rfl, rfl⟩, ⟨rfl, rfl⟩, ⟨rfl, rfl⟩, ⟨rfl, rfl⟩, ⟨rfl, rfl⟩, ⟨rfl, rfl⟩, ⟨rfl, rfl⟩, ⟨rfl, rfl⟩, ⟨rfl, rfl⟩, ⟨rfl, rfl⟩, ⟨kr2, vr2⟩, ?_, rfl, Ent.pick [0, 3, 4, 1] rfl ?_⟩
      · show MnY.ok x.l ⟨kr2, vr2⟩
        rw [he]; exact hy
      · show _ = ofL [jrA x.b x.w x.j, kr2.A, vr2.A, F]
        rw [hj] <;> rfl
    · rw [c] at d; exact absurd d (by decide)
  · have c : (jpkR0 x.w i2 == 125) = false := c
    have c : jpkR0 x.w i2 ≠ 125 := by simpa using c
    rcases b8 with ⟨-, d, -⟩ | ⟨d, hob2⟩
    · exact (c d).elim
    · exact ⟨mst_ok, rfl, ⟨x.b, x.w, i2, ⟨#[]⟩, 44⟩, rfl, rfl, ⟨h1, by dsimp only; omega, d⟩, fo_tv, λ_ _ => ⟨⟨r, n, i2 + 1, o ++ [(s, v)], l2, ⟨kr2, vr2⟩⟩, ⟨by rw [he]; simp, hob2, hy⟩, ⟨rfl, rfl, rfl, rfl, rfl, rfl, fo_tv⟩, Ent.pick [0, 1, 2, 3, 4, 5] rfl rfl, fo_ls _⟩⟩
theorem mn_ok : fo_k 127 mnC := fo 70 Tryz.func127 (λ_ _ => [(0, 0, .n 1000), (1, 2, .n 1020), (1, 3, .w [.aq 1020, .aq 1020, .aq 1020, .aq 1020, .aq 1020, .aq 1020, .aq 1020, .aq 1020]), (6, 1, .c blfC [] []), (7, 1, .c (pkkC 34) [] []), (11, 1, .c blfC [] []), (12, 3, .c txfC [0] [0]), (12, 4, .n 12050), (12, 5, .o (apC 9 1 16) [3] [3]), (13, 1, .c blfC [] []), (14, 1, .c mstC [0] [0]), (15, 4, .c vlC [0] [0]), (15, 5, .n 15060), (15, 6, .o (apC 141 8 104) [4] [4]), (16, 1, .c pkfC [] []), (17, 3, .q [.ex 0 (.int .i64)]), (17, 7, .w [.aq 0]), (18, 1, .w [.aq 5, .aq 5, .aq 5, .aq 5, .aq 5, .aq 5, .aq 5, .aq 5]), (19, 1, .c mstC [0] [0])]) [(5, 3, OH.q [LH.aq (0 : Nat)]), (5, 7, OH.w [LH.aq (0 : Nat)]), (12, 1, OH.q [LH.aq (2 : Nat)]), (12, 7, OH.w [LH.aq (2 : Nat)]), (15, 1, OH.q [LH.aq (2 : Nat)]), (15, 8, OH.w [LH.aq (2 : Nat)]), (18, 0, OH.q [LH.aq (2 : Nat), LH.aq (2 : Nat), LH.aq (2 : Nat), LH.aq (2 : Nat), LH.aq (2 : Nat), LH.aq (2 : Nat), LH.aq (2 : Nat), LH.aq (2 : Nat)])] mnInv fo_i fo_o [LH.aq 5, LH.aq 5, LH.aq 5, LH.aq 5, LH.aq 5, LH.aq 5, LH.aq 5, LH.aq 5] mn_vc
def ObA (k : RdK) (w : ByteArray) (i : Nat) (l : KVs) (j : Nat) : Prop := ObAt k w i l j ∨ (l = [] ∧ jpkR0 w i = 125 ∧ j = i + 1)
abbrev mneC : Con where
  X := MnX
  Y := Unit
  args x := [.pointer (some ⟨x.b, 0, none⟩), .bool false, .int .i64 x.d]
  pre x := [jrA x.b x.w x.i]
  cond x := x.w.size ≤ 1048576 ∧ x.i ≤ 1048570 ∧ jpkR0 x.w (x.i + 1) = 125
  rdc _ _ := True
  rel _ _ := True
  val _ _ := .returned (.agg #[.int .i64 0, .float .f64 0, .string ⟨#[]⟩, .int .i64 0, .bool false, .slice none 0 0, .slice none 0 0, .bool true])
  post x _ := [jrA x.b x.w (x.i + 2)]
def mneOv (_x : MnX) (_F : Atom) : List (Nat × Nat × OH) := [(0, 0, .n 1000), (1, 2, .n 1020), (1, 3, .w [.aq 1020, .aq 1020, .aq 1020, .aq 1020, .aq 1020, .aq 1020, .aq 1020, .aq 1020]), (6, 1, .c blfC [] []), (7, 1, .c (pkkC 125) [] []), (8, 3, .q [.ex 0 (.is (.int .i64 ((_x.i + 1 : Nat) : Int)))]), (8, 7, .w [.aq 0]), (9, 0, .q [.aq 1020, .aq 1020, .aq 1020, .aq 1020, .aq 1020, .aq 1020, .aq 1020, .aq 1020]), (9, 1, .w [.aq 1000, .aq 1000, .aq 1000, .aq 1000, .aq 1000, .aq 1000, .aq 1000, .aq 1000])]
theorem mne_vc (x : MnX) (F : Atom) (hc : mneC.cond x) (hr : mneC.rdc x F) :
 ∀(f e : Nat), fo_s5 e (fo_sm e 5 ∧ fo_sm e 6 ∧ fo_sm e 7 ∧ fo_sm x.b 1 ∧ fo_rI ((x.i : Int) + 1) ∧ fo_sm x.b 1 ∧ T100 (q288 x) (fo_aR (q35 x F f e) []) (λd c => T99 (q288 x) (fo_aR (q35 x F f e) []) (λb a => Look (fo_cl x.b [fo_vs x.w, fo_vi ((x.i : Int) + 1)] 138) ⟨x.b, 1, none⟩ (fo_vi (↑(x.i + 1) : Int)) ∧ fo_rI ((↑(x.i + 1) : Int) + 1) ∧ fo_sm x.b 1 ∧ fo_s5 e (fo_sm e 5 ∧ fo_sm e 6 ∧ fo_sm e 7 ∧ fo_s5 f (fo_sm f 5 ∧ fo_sm f 6 ∧ fo_sm f 7 ∧ fo_s5 f (fo_sm f 5 ∧ fo_sm f 6 ∧ fo_sm f 7 ∧ Done mneC x F (fo_rt (agg ⟨q87⟩)) [(0, fo_cl x.b [fo_vs x.w, fo_vi ((↑(x.i + 1) : Int) + 1)] 138), (1, F), (1000, fo_cl f q87 141), (1020, fo_cl e q87 141)])))))) := by
  delta T100 q121 q288 q2 q87 q35 T99 fo_aR fo_sm fo_rI fo_s5 fo_C2 fo_vi fo_vs fo_vb fo_vp fo_vl fo_cl fo_rt
  obtain ⟨h1, h2, h3⟩ := hc
  intro b n
  iterate 9 refine ⟨⟨rfl, rfl⟩, ?_⟩
  refine ⟨⟨by omega, by omega⟩, ⟨rfl, rfl⟩, blf_ok, rfl, ⟨x.b, x.w, x.i + 1, ⟨#[]⟩, 0⟩, rfl, rfl, ⟨h1, by dsimp only; omega, by rw [show jpkR0 x.w (x.i + 1) = 125 from h3] <;> rfl⟩, JrIn.sub (sub_rest 0 (by simp) rfl) (.jr ⟨x.b, x.w, x.i + 1, ⟨#[]⟩, 0⟩), λ_ _ => ⟨pkk_ok, rfl, ⟨x.b, x.w, x.i + 1, ⟨#[]⟩, 0⟩, rfl, rfl, ⟨h1, by dsimp only; omega, h3⟩, JrIn.sub (sub_rest 0 (by simp) rfl) (.jr ⟨x.b, x.w, x.i + 1, ⟨#[]⟩, 0⟩), λ_ _ => ⟨Look.cells rfl, ⟨by omega, by omega⟩, ?_⟩⟩⟩
  iterate 25 refine ⟨⟨rfl, rfl⟩, ?_⟩
  exact ⟨(), fo_tv, rfl, Ent.pick [0, 1] rfl rfl⟩
theorem mne_ok : fo_k 127 mneC := fo 70 Tryz.func127 mneOv [(5, 3, OH.q [LH.aq (0 : Nat)]), (5, 7, OH.w [LH.aq (0 : Nat)])] fo_i fo_i fo_o [LH.aq 1000, LH.aq 1000, LH.aq 1000, LH.aq 1000, LH.aq 1000, LH.aq 1000, LH.aq 1000, LH.aq 1000] mne_vc
abbrev mn2C : Con := { mnC with cond := λx => x.w.size ≤ 1048576 ∧ x.i ≤ 1048570 ∧ x.k.ok ∧ ObA x.k x.w (x.i + 1) x.l x.j ∧ x.l.length ≤ 1000000 }
theorem mn2_ok : fo_k 127 mn2C := ⟨λx F I w hc hr hs => by
  obtain ⟨h1, h2, h3, h4, h5⟩ := hc
  rcases h4 with h4 | ⟨e1, e2, e3⟩
  · exact mn_ok.h x F I w ⟨h1, h2, h3, h4, h5⟩ hr hs
  · refine (mne_ok.h x F I w ⟨h1, h2, e2⟩ trivial hs).mono λe w' ⟨y, J, k1, k2, k3, k4, k5⟩ => ⟨⟨nilRow, nilRow⟩, J, ?_, k2, k3, ?_, k5⟩
    · show MnY.ok x.l ⟨nilRow, nilRow⟩
      rw [e1]
      exact ⟨.nil rfl, .nil rfl, rfl, rfl⟩
    · have e : x.j = x.i + 2 := by rw [e3]
      show Sat J (ofL [jrA x.b x.w x.j, nilRow.A, nilRow.A, F]) w'
      rw [e]
      exact (k4 : Sat J (ofL [jrA x.b x.w (x.i + 2), F]) w').pick [0, 999, 998, 1] rfl rfl⟩
end
section
open Go
set_option maxHeartbeats 1000000
structure VoX where
  k : RdK
  b : Nat
  w : ByteArray
  i : Nat
  l : KVs
  j : Nat
abbrev voC : Con where
  X := VoX
  Y := MnY
  args x := [.pointer (some ⟨x.b, 0, none⟩), .int .i64 0]
  pre x := [jrA x.b x.w x.i]
  cond x := (x.w.size ≤ 1048576 ∧ x.i ≤ 1048570 ∧ x.k.ok ∧ ObA x.k x.w (x.i + 1) x.l x.j ∧ x.l.length ≤ 1000000) ∧ jpkR0 x.w x.i = 123 ∧ x.j ≤ 1048576 ∧ isBk (jpkR0 x.w x.j) = false
  rdc x F := x.k.K.rd F ∧ Utf F
  rel x y := y.ok x.l
  val _ y := .returned (mnV y)
  post x y := [jrA x.b x.w x.j, y.kr.A, y.vr.A]
  rmono x _ _ hs h := ⟨x.k.K.mono h.1 hs, h.2.sub hs⟩
abbrev q342 (x : VoX) : List Value := [fo_vp (some ⟨x.b, 0, none⟩)]
abbrev q321 (x : VoX) (F : Atom) (j g : Nat) := [(0, fo_cl x.b [fo_vs x.w, fo_vi ↑x.i] 138), (1, F), (1000, fo_cl j q2 141), (2001, fo_cl g q2 141)]
abbrev q32 (c : MnY) : List Value := [fo_vi 0, float f64 0, fo_vs ⟨#[]⟩, fo_vi 0, fo_vb false, fo_vl c.kr.a c.kr.n c.kr.cap, fo_vl c.vr.a c.vr.n c.vr.cap, fo_vb true]
theorem vo_vc (x : VoX) (F : Atom) (hc : voC.cond x) (hr : voC.rdc x F) :
 ∀(j : Nat), T100 (q342 x) (fo_aR [(0, fo_cl x.b [fo_vs x.w, fo_vi ↑x.i] 138), (1, F), (1000, fo_cl j q2 141)] []) (λi h => ∀(g : Nat), fo_s5 g (fo_sm g 5 ∧ fo_sm g 6 ∧ fo_sm g 7 ∧ fo_C2 83 (pkkC (123 : Int)) (λf => f.w.size ≤ 1048576 ∧ f.i ≤ 1048576 ∧ jpkR0 f.w f.i = 123) JrIn (q342 x) (fo_aR (q321 x F j g) []) (λf e => fo_rI ((0 : Int) + (1 : Int)) ∧ fo_C4 127 mn2C (λd => d.w.size ≤ 1048576 ∧ d.i ≤ 1048570 ∧ d.k.ok ∧ ObA d.k d.w (d.i + 1) d.l d.j ∧ List.length d.l ≤ 1000000) (λd rr => d.k.K.3 rr ∧ Utf rr) (λd c => MnY.ok d.l c) [fo_vp (some ⟨x.b, 0, none⟩), fo_vb ((123 : Int) == (91 : Int)), fo_vi ((0 : Int) + (1 : Int))] [fo_cl x.b [fo_vs x.w, fo_vi ↑x.i] 138] (fo_aR (q321 x F j g) [0]) (λd c => fo_s5 g (fo_sm g 5 ∧ fo_sm g 6 ∧ fo_sm g 7 ∧ T100 (q342 x) (fo_aR [(0, fo_cl d.b [fo_vs d.w, fo_vi ↑d.j] 138), (1, F), (1000, fo_cl j q2 141), (2001, fo_cl g (q32 c) 141), (8051, c.kr.A), (8052, c.vr.A)] []) (λb a => fo_s5 g (fo_sm g 5 ∧ fo_sm g 6 ∧ fo_sm g 7 ∧ fo_s5 j (fo_sm j 5 ∧ fo_sm j 6 ∧ fo_sm j 7 ∧ fo_s5 j (fo_sm j 5 ∧ fo_sm j 6 ∧ fo_sm j 7 ∧ Done voC x F (fo_rt (agg ⟨q32 c⟩)) [(0, fo_cl d.b [fo_vs d.w, fo_vi ↑d.j] 138), (1, F), (1000, fo_cl j (q32 c) 141), (2001, fo_cl g (q32 c) 141), (8051, c.kr.A), (8052, c.vr.A)]))))))))) := by
  delta T100 q342 q2 q321 q32 fo_aR fo_sm fo_rI fo_s5 fo_C2 fo_C4 fo_vi fo_vs fo_vb fo_vp fo_vl fo_cl fo_rt
  obtain ⟨⟨h1, h2, hk, hob, hl⟩, h3, h4, h5⟩ := hc
  obtain ⟨hr, hu⟩ := hr
  have hr : x.k.K.rd F := hr
  exact λb => ⟨blf_ok, rfl, ⟨x.b, x.w, x.i, ⟨#[]⟩, 0⟩, rfl, rfl, ⟨h1, by dsimp only; omega, by rw [show jpkR0 x.w x.i = 123 from h3] <;> rfl⟩, JrIn.sub (sub_rest 0 (by simp) rfl) (.jr ⟨x.b, x.w, x.i, ⟨#[]⟩, 0⟩), λ_ _ b1 => ⟨⟨rfl, rfl⟩, ⟨rfl, rfl⟩, ⟨rfl, rfl⟩, ⟨rfl, rfl⟩, ⟨rfl, rfl⟩, ⟨rfl, rfl⟩, ⟨rfl, rfl⟩, ⟨rfl, rfl⟩, pkk_ok, rfl, ⟨x.b, x.w, x.i, ⟨#[]⟩, 0⟩, rfl, rfl, ⟨h1, by dsimp only; omega, h3⟩, JrIn.sub (sub_rest 0 (by simp) rfl) (.jr ⟨x.b, x.w, x.i, ⟨#[]⟩, 0⟩), λ_ _ => ⟨⟨by omega, by omega⟩, mn2_ok, rfl, ⟨x.k, x.b, x.w, x.i, 1, x.l, x.j⟩, rfl, rfl, ⟨h1, h2, hk, hob, hl⟩, ⟨x.k.K.mono hr (sub_rest 1 (by simp) rfl), Utf.rest (j := 1) (by simp) hu⟩, λy hy => ⟨⟨rfl, rfl⟩, ⟨rfl, rfl⟩, ⟨rfl, rfl⟩, ⟨rfl, rfl⟩, ⟨rfl, rfl⟩, ⟨rfl, rfl⟩, ⟨rfl, rfl⟩, ⟨rfl, rfl⟩, blf_ok, rfl, ⟨x.b, x.w, x.j, ⟨#[]⟩, 0⟩, rfl, rfl, ⟨h1, h4, h5⟩, JrIn.sub (sub_rest 0 (by simp) rfl) (.jr ⟨x.b, x.w, x.j, ⟨#[]⟩, 0⟩), λ_ _ => ⟨⟨rfl, rfl⟩, ⟨rfl, rfl⟩, ⟨rfl, rfl⟩, ⟨rfl, rfl⟩, ⟨rfl, rfl⟩, ⟨rfl, rfl⟩, ⟨rfl, rfl⟩, ⟨rfl, rfl⟩, ⟨rfl, rfl⟩, ⟨rfl, rfl⟩, ⟨rfl, rfl⟩, ⟨rfl, rfl⟩, ⟨rfl, rfl⟩, ⟨rfl, rfl⟩, ⟨rfl, rfl⟩, ⟨rfl, rfl⟩, ⟨rfl, rfl⟩, ⟨rfl, rfl⟩, ⟨rfl, rfl⟩, ⟨rfl, rfl⟩, ⟨rfl, rfl⟩, ⟨rfl, rfl⟩, ⟨rfl, rfl⟩, ⟨rfl, rfl⟩, y, hy, rfl, Ent.pick [0, 8051, 8052, 1] rfl rfl⟩⟩⟩⟩⟩
theorem vo_ok : fo_k 82 voC := fo 57 Tryz.func82 (λ_ _ => [(0, 0, .n 1000), (1, 1, .c blfC [] []), (2, 1, .n 2001), (2, 2, .w [.aq 2001, .aq 2001, .aq 2001, .aq 2001, .aq 2001, .aq 2001, .aq 2001, .aq 2001]), (3, 1, .c (pkkC 123) [] []), (8, 5, .c mn2C [0] [0, 8051, 8052]), (8, 6, .w [.aq 2001, .aq 2001, .aq 2001, .aq 2001, .aq 2001, .aq 2001, .aq 2001, .aq 2001]), (17, 1, .c blfC [] []), (18, 1, .w [.aq 1000, .aq 1000, .aq 1000, .aq 1000, .aq 1000, .aq 1000, .aq 1000, .aq 1000])]) [(18, 0, OH.q [LH.aq (2001 : Nat), LH.aq (2001 : Nat), LH.aq (2001 : Nat), LH.aq (2001 : Nat), LH.aq (2001 : Nat), LH.aq (2001 : Nat), LH.aq (2001 : Nat), LH.aq (2001 : Nat)])] fo_i fo_i fo_o [LH.aq 1000, LH.aq 1000, LH.aq 1000, LH.aq 1000, LH.aq 1000, LH.aq 1000, LH.aq 1000, LH.aq 1000] vo_vc
structure BldX where
  v : Pv
  h : Option Addr
abbrev bldC : Con where
  X := BldX
  Y := Unit
  args x := [lfV x.v, .pointer x.h]
  pre _ := []
  cond _ := True
  rdc _ _ := True
  rel _ _ := True
  val x _ := .returned x.v.v
  post _ _ := []
abbrev q116 (x : BldX) : List Value := [fo_vi x.v.k, float f64 x.v.f, fo_vs x.v.s, fo_vi 0]
theorem bld_vc (x : BldX) (F : Atom) (hc : bldC.cond x) (hr : bldC.rdc x F) :
 ∀(b a : Nat), fo_sm b 7 ∧ fo_sm b 0 ∧ fo_sm b 1 ∧ fo_sm b 2 ∧ fo_sm b 3 ∧ fo_sm a 0 ∧ fo_sm a 1 ∧ fo_sm a 2 ∧ fo_sm a 3 ∧ fo_sm a 0 ∧ fo_sm a 1 ∧ fo_sm a 2 ∧ fo_sm a 3 ∧ Done bldC x F (fo_rt (agg ⟨q116 x⟩)) [(0, F), (1000, fo_cl b [fo_vi x.v.k, float f64 x.v.f, fo_vs x.v.s, fo_vi 0, fo_vb false, fo_vl none 0 0, fo_vl none 0 0, fo_vb false] 141), (1010, fo_cl a (q116 x) 30)] := by
  delta q116 fo_sm fo_vi fo_vs fo_vb fo_vl fo_cl fo_rt
  exact λ_ _ => ⟨⟨rfl, rfl⟩, ⟨rfl, rfl⟩, ⟨rfl, rfl⟩, ⟨rfl, rfl⟩, ⟨rfl, rfl⟩, ⟨rfl, rfl⟩, ⟨rfl, rfl⟩, ⟨rfl, rfl⟩, ⟨rfl, rfl⟩, ⟨rfl, rfl⟩, ⟨rfl, rfl⟩, ⟨rfl, rfl⟩, ⟨rfl, rfl⟩, (), fo_tv, rfl, Ent.pick [0] rfl rfl⟩
theorem bld_ok : fo_k 85 bldC := fo 72 Tryz.func85 (λ_ _ => [(0, 0, .n 1000), (0, 1, .n 1010), (2, 2, .w [.aq 1010, .aq 1010, .aq 1010, .aq 1010])]) [(1, 1, OH.q [LH.aq (1000 : Nat)]), (2, 1, OH.q [LH.aq (1000 : Nat), LH.aq (1000 : Nat), LH.aq (1000 : Nat), LH.aq (1000 : Nat)])] fo_i fo_i fo_o [LH.aq 1010, LH.aq 1010, LH.aq 1010, LH.aq 1010] bld_vc
abbrev chkC : Con where
  X := Unit
  Y := Unit
  args _ := [.int .i64 0]
  pre _ := []
  cond _ := True
  rdc _ _ := True
  rel _ _ := True
  val _ _ := .returned (.tuple #[])
  post _ _ := []
theorem chk_vc (x : PUnit) (F : Atom) (hc : chkC.cond x) (hr : chkC.rdc x F) :
 Done chkC x F q74 [(0, F)] := by
  delta q74 fo_rt
  exact ⟨(), fo_tv, rfl, Ent.pick [0] rfl rfl⟩
theorem chk_ok : fo_k 133 chkC := fo 6 Tryz.func133 (λ_ _ => []) [] fo_i fo_i fo_o [] chk_vc
def objV : Value := .agg #[.int .i64 5, .float .f64 0, .string ⟨#[]⟩, .int .i64 0]
abbrev objC : Con where
  X := Unit
  Y := Unit
  args _ := [.int .i64 0]
  pre _ := []
  cond _ := True
  rdc _ _ := True
  rel _ _ := True
  val _ _ := .returned objV
  post _ _ := []
def objOv2 (_x : Unit) (_F : Atom) : List (Nat × Nat × OH) := [(0, 0, .n 1000), (1, 2, .w [.aq 1000, .aq 1000, .aq 1000, .aq 1000])]
theorem obk_vc (x : PUnit) (F : Atom) (hc : objC.cond x) (hr : objC.rdc x F) :
 ∀(a : Nat), fo_sm a 0 ∧ fo_sm a 1 ∧ fo_sm a 2 ∧ fo_sm a 3 ∧ fo_sm a 0 ∧ fo_sm a 1 ∧ fo_sm a 2 ∧ fo_sm a 3 ∧ Done objC x F (fo_rt (agg ⟨q12⟩)) [(0, F), (1000, fo_cl a q12 30)] := by
  delta q12 fo_sm fo_vi fo_vs fo_cl fo_rt
  exact λb => ⟨⟨rfl, rfl⟩, ⟨rfl, rfl⟩, ⟨rfl, rfl⟩, ⟨rfl, rfl⟩, ⟨rfl, rfl⟩, ⟨rfl, rfl⟩, ⟨rfl, rfl⟩, ⟨rfl, rfl⟩, (), fo_tv, rfl, Ent.pick [0] rfl rfl⟩
theorem obk_ok : fo_k 134 objC := fo 5 Tryz.func134 objOv2 [] fo_i fo_i fo_o [LH.aq 1000, LH.aq 1000, LH.aq 1000, LH.aq 1000] obk_vc
def mndL (y : MnY) : List Value := [.int .i64 0, .float .f64 0, .string ⟨#[]⟩, .int .i64 0, .bool false, .slice y.kr.a y.kr.n y.kr.cap, .slice y.vr.a y.vr.n y.vr.cap, .bool true]
def kvP (l : KVs) : KVs := l.foldl (λa p => putV p.1 p.2 a) []
def pvL (v : Pv) : List Value := [.int .i64 v.k, .float .f64 v.f, .string v.s, .int .i64 0]
def pvsL (l : KVs) : List Value := l.flatMap λp => pvL p.2
theorem flq_get {α : Type} {f : α → List Value} {k : Nat} (hf : ∀ a, (f a).length = k) : ∀ {l : List α} {i j : Nat} {p : α}, l[i]? = some p → j < k → (l.flatMap f)[i * k + j]? = (f p)[j]?
  | a :: l, 0, j, p, h, hj => by
    have e : a = p := by simpa using h
    rw [List.flatMap_cons, Nat.zero_mul, fo_za, fo_gl (by rw [hf]; exact hj), e]
  | a :: l, i + 1, j, p, h, hj => by
    have h2 : l[i]? = some p := by simpa using h
    rw [List.flatMap_cons, fo_gr2 (by rw [hf, Nat.succ_mul]; omega), hf, show (i + 1) * k + j - k = i * k + j by rw [Nat.succ_mul]; omega]
    exact flq_get hf h2 hj
  | [], i, j, p, h, hj => by simp at h
theorem flat_len {α : Type} {f : α → List Value} {k : Nat} (hf : ∀ a, (f a).length = k) : ∀ l : List α, (l.flatMap f).length = l.length * k
  | [] => by simp
  | a :: l => by rw [List.flatMap_cons, fo_la, hf, flat_len hf l, fo_lc, Nat.succ_mul, Nat.add_comm]
theorem lkN {k : Nat} {f : ByteArray × Pv → List Value} {F : Atom} {c o i j : Nat} {l : KVs} {q : ByteArray × Pv} {v : Value} (hf : ∀ a, (f a).length = k) (h : Srcd F (some ⟨c, o, none⟩) (l.flatMap f)) (hq : l[i]? = some q) (hj : j < k) (e : (f q)[j]? = some v) : Look F ⟨c, o + (i : Int).toNat * k + j, none⟩ v := by
  have := Srcd.look h ((flq_get hf hq hj).trans e)
  rw [fo_tn, Nat.add_assoc]
  exact this
theorem lk1 {F : Atom} {c o i j : Nat} {l : KVs} {q : ByteArray × Pv} {v : Value} (h : Srcd F (some ⟨c, o, none⟩) (lfsL l)) (hq : l[i]? = some q) (hj : j < 8) (e : (lfL q.2)[j]? = some v) : Look F ⟨c, o + (i : Int).toNat * 8 + j, none⟩ v := lkN (f := λp => lfL p.2) (λ_ => rfl) h hq hj e
theorem lk0 {F : Atom} {c o i : Nat} {l : KVs} {q : ByteArray × Pv} {v : Value} (h : Srcd F (some ⟨c, o, none⟩) (lfsL l)) (hq : l[i]? = some q) (hj : 0 < 8) (e : (lfL q.2)[0]? = some v) : Look F ⟨c, o + (i : Int).toNat * 8, none⟩ v := lk1 (j := 0) h hq hj e
theorem lv1 {F : Atom} {c o i j : Nat} {l : KVs} {q : ByteArray × Pv} {v : Value} (h : Srcd F (some ⟨c, o, none⟩) (pvsL l)) (hq : l[i]? = some q) (hj : j < 4) (e : (pvL q.2)[j]? = some v) : Look F ⟨c, o + (i : Int).toNat * 4 + j, none⟩ v := lkN (f := λp => pvL p.2) (λ_ => rfl) h hq hj e
theorem lv0 {F : Atom} {c o i : Nat} {l : KVs} {q : ByteArray × Pv} {v : Value} (h : Srcd F (some ⟨c, o, none⟩) (pvsL l)) (hq : l[i]? = some q) (hj : 0 < 4) (e : (pvL q.2)[0]? = some v) : Look F ⟨c, o + (i : Int).toNat * 4, none⟩ v := lv1 (j := 0) h hq hj e
theorem pvL_one (v : Pv) : ∀ u ∈ pvL v, u.oneCell' = true := by
  intro u hu
  simp only [pvL, List.mem_cons, List.not_mem_nil, or_false] at hu
  rcases hu with rfl | rfl | rfl | rfl <;> rfl
theorem kvP_take {l : KVs} {i : Nat} {p : ByteArray × Pv} (h : l[i]? = some p) : kvP (l.take (i + 1)) = putV p.1 p.2 (kvP (l.take i)) := by
  unfold kvP
  rw [List.take_add_one, h, Option.toList_some, List.foldl_append] <;> rfl
theorem kvP_len (l : KVs) : (kvP l).length ≤ l.length := by
  have : ∀ (l a : KVs), (l.foldl (λa p => putV p.1 p.2 a) a).length ≤ a.length + l.length := by
    intro l
    induction l with
    | nil => intro a; exact fo_nr _
    | cons p l ih =>
      intro a
      rw [List.foldl_cons]
      have h1 := ih (putV p.1 p.2 a)
      have h2 := putT_len p.1 p.2 a
      rw [fo_lc]
      omega
  have h := this l []
  rw [List.length_nil, fo_za] at h
  exact h
structure BudX where
  b : Nat
  l : KVs
  y : MnY
abbrev budC : Con where
  X := BudX
  Y := Int
  args x := [mnV x.y, .pointer (some ⟨x.b, 0, none⟩)]
  pre x := [ho0 x.b 10000]
  cond x := x.l.length ≤ 9990 ∧ (∀ p ∈ x.l, p.1.size ≤ 1048576 ∧ p.2.ok) ∧ x.y.ok x.l
  rdc x F := Srcd F x.y.kr.a (ksL x.l) ∧ Srcd F x.y.vr.a (lfsL x.l)
  rel _ _ := True
  val _ _ := .returned objV
  post x y := [hoA x.b y (kvP x.l)]
  rmono _ _ _ hs h := ⟨h.1.sub hs, h.2.sub hs⟩
structure BudS where
  n : Nat
  r : Nat
  i : Nat
  left : Int
  v : Row
def budInv (x : BudX) (F : Atom) : Nat → Option Inv := fun
  | 0 => some { X := BudS, P := λd => d.i ≤ x.l.length ∧ IsRow 30 4 (pvsL (x.l.take d.i)) d.v ∧ d.v.n = d.i, mu := λd => x.l.length - d.i, lv := λd => [(1, .pointer (some ⟨x.b, 0, none⟩)), (2, .pointer (some ⟨d.n, 0, none⟩)), (4, .pointer (some ⟨d.r, 0, none⟩)), (5, .slice d.v.a d.v.n d.v.cap), (20, .slice x.y.vr.a x.y.vr.n x.y.vr.cap), (21, .int .i64 x.l.length), (22, .int .i64 d.i)], st := λd => [ho0 x.b 10000, F, .cells d.n (mndL x.y) 141, .cells d.r [.int .i64 0, .float .f64 0, .string ⟨#[]⟩, .int .i64 0] 30, d.v.A] }
  | 2 => some { X := BudS, P := λd => d.i ≤ x.l.length ∧ IsRow 30 4 (pvsL x.l) d.v ∧ 9999 ≤ d.left + d.i ∧ d.left ≤ 10000, mu := λd => x.l.length - d.i, lv := λd => [(1, .pointer (some ⟨x.b, 0, none⟩)), (2, .pointer (some ⟨d.n, 0, none⟩)), (4, .pointer (some ⟨d.r, 0, none⟩)), (10, .int .i64 0), (52, .slice d.v.a d.v.n d.v.cap), (53, .int .i64 x.l.length), (54, .int .i64 d.i)], st := λd => [hoA x.b d.left (kvP (x.l.take d.i)), F, .cells d.n (mndL x.y) 141, .cells d.r [.int .i64 0, .float .f64 0, .string ⟨#[]⟩, .int .i64 0] 30, d.v.A] }
  | _ => none
def budCut (x : BudX) (F : Atom) : Nat → Option Inv := fun
  | 9 => some { X := BudS, P := λd => IsRow 30 4 (pvsL x.l) d.v ∧ d.v.n = x.l.length, mu := λ_ => 0, lv := λd => [(1, .pointer (some ⟨x.b, 0, none⟩)), (2, .pointer (some ⟨d.n, 0, none⟩)), (4, .pointer (some ⟨d.r, 0, none⟩)), (5, .slice d.v.a d.v.n d.v.cap)], st := λd => [ho0 x.b 10000, F, .cells d.n (mndL x.y) 141, .cells d.r [.int .i64 0, .float .f64 0, .string ⟨#[]⟩, .int .i64 0] 30, d.v.A] }
  | _ => none
def q189 (a : BudS) (x : BudX) := a.i ≤ List.length x.l ∧ IsRow 30 4 (pvsL (List.take a.i x.l)) a.v ∧ a.v.n = a.i
abbrev q141 (x : BudX) : Option Addr := some ⟨x.b, 0, none⟩
abbrev q194 (a : BudS) : Option Addr := some ⟨a.n, 0, none⟩
abbrev q195 (a : BudS) : Option Addr := some ⟨a.r, 0, none⟩
abbrev q15 (x : BudX) : List Value := [fo_vi 0, float f64 0, fo_vs ⟨#[]⟩, fo_vi 0, fo_vb false, fo_vl x.y.kr.a x.y.kr.n x.y.kr.cap, fo_vl x.y.vr.a x.y.vr.n x.y.vr.cap, fo_vb true]
abbrev q111 (x : BudX) (F : Atom) (a : BudS) := [(0, fo_cl x.b q23 60), (1, F), (2, fo_cl a.n (q15 x) 141), (3, fo_cl a.r q8 30), (4, a.v.A)]
def T104 (aa : Atom) (ad : Addr) (k0 : Nat → Prop) := ∃ (z0 : Nat), Look aa ad (float f64 z0) ∧ k0 z0
def T105 := fo_C0 85 bldC
abbrev q196 (k : Int) (j : Nat) (i : ByteArray) (h : Int) : List Value := [fo_vi k, float f64 j, fo_vs i, fo_vi h, fo_vb false, fo_vl none 0 0, fo_vl none 0 0, fo_vb false]
def T106 := fo_C0 133 chkC
def q176 (a : BudS) (x : BudX) := a.i ≤ List.length x.l ∧ IsRow 30 4 (pvsL x.l) a.v ∧ 9999 ≤ a.left + a.i ∧ a.left ≤ 10000
abbrev q186 (a : BudS) (x : BudX) (F : Atom) := [(0, fo_pr (Ex.rest (hoR (kvP (List.take a.i x.l))) (hoB x.b a.left (kvP (List.take a.i x.l))))), (1, F), (2, fo_cl a.n (q15 x) 141), (3, fo_cl a.r q8 30), (4, a.v.A)]
theorem bud_vc (x : BudX) (F : Atom) (hc : budC.cond x) (hr : budC.rdc x F) :
 ∀(w v : Nat), fo_sm w 7 ∧ (fo_sm w 6 ∧ (∃(a : BudS), q189 a x ∧ (fo_vp (q141 x) = fo_vp (q141 x) ∧ fo_vp (q17 w) = fo_vp (q194 a) ∧ fo_vp (q17 v) = fo_vp (q195 a) ∧ fo_vl none 0 0 = fo_vl a.v.a a.v.n a.v.cap ∧ fo_vl x.y.vr.a x.y.vr.n x.y.vr.cap = fo_vl x.y.vr.a x.y.vr.n x.y.vr.cap ∧ fo_vi ↑x.y.vr.n = fo_vi (↑(List.length x.l) : Int) ∧ fo_vi 0 = fo_vi ↑a.i ∧ True) ∧ Ent [(0, fo_cl x.b q23 60), (1, F), (1000, fo_cl w (q15 x) 141), (1010, fo_cl v q8 30)] (q111 x F a)) ∧ fo_vA λ(n : BudS) _ => q189 n x → fo_Bd ((n.i : Int) < (↑(List.length x.l) : Int)) (QOpOk Tryz.prog (opIn Tryz.f85 6 0) (ixQ 8) ∧ ∃(l : IxQX), [fo_vl x.y.vr.a x.y.vr.n x.y.vr.cap, fo_vi ↑n.i] = (q175 l) ∧ (0 ≤ l.n ∧ l.n < l.len) ∧ T60 F ⟨l.b, l.o + l.n.toNat * 8, none⟩ (λk => T104 F ⟨l.b, l.o + l.n.toNat * 8 + 1, none⟩ (λj => T25 F ⟨l.b, l.o + l.n.toNat * 8 + 2, none⟩ (λi => T60 F ⟨l.b, l.o + l.n.toNat * 8 + 3, none⟩ (λh => Look F ⟨l.b, l.o + l.n.toNat * 8 + 4, none⟩ (fo_vb false) ∧ Look F ⟨l.b, l.o + l.n.toNat * 8 + 5, none⟩ q285 ∧ Look F ⟨l.b, l.o + l.n.toNat * 8 + 6, none⟩ q285 ∧ Look F ⟨l.b, l.o + l.n.toNat * 8 + 7, none⟩ (fo_vb false) ∧ ∀(g : Nat), fo_s5 g (fo_sm g 5 ∧ fo_sm g 6 ∧ fo_sm g 7 ∧ fo_s5 g (fo_sm g 5 ∧ fo_sm g 6 ∧ fo_sm g 7 ∧ T105 [agg ⟨q196 k j i h⟩, fo_vp (q141 x)] (λf e => ∀(d : Nat), fo_O4 (opIn Tryz.f85 7 5) (apC (30 : TypeId) 4 40) (λc => IsRow 30 4 c.cs c.r ∧ c.ys.length = c.m * 4 ∧ q169 c ∧ (c.r.n + c.m) * 40 ≤ 140737488355328 ∧ c.r.n + c.m ≤ 9223372036854775807 ∧ q261 c) (λc rr => q206 c rr) (λc b => IsRow 30 4 (c.cs ++ c.ys) b ∧ b.n = c.r.n + c.m ∧ (c.m = 0 → b = c.r)) [fo_vl n.v.a n.v.n n.v.cap, fo_vl (q17 d) 1 1] [n.v.A] (fo_aR [(0, fo_cl x.b q23 60), (1, F), (2, fo_cl n.n (q15 x) 141), (3, fo_cl n.r q8 30), (4, n.v.A), (6020, fo_cl g (q196 k j i h) 141), (7040, fo_cl d (q116 f) 30)] [4]) (λc b => fo_rI ((n.i : Int) + 1) ∧ ∃(a : BudS), q189 a x ∧ (fo_vp (q141 x) = fo_vp (q141 x) ∧ fo_vp (q194 n) = fo_vp (q194 a) ∧ fo_vp (q195 n) = fo_vp (q195 a) ∧ fo_vl b.a b.n b.cap = fo_vl a.v.a a.v.n a.v.cap ∧ fo_vl x.y.vr.a x.y.vr.n x.y.vr.cap = fo_vl x.y.vr.a x.y.vr.n x.y.vr.cap ∧ fo_vi (↑(List.length x.l) : Int) = fo_vi (↑(List.length x.l) : Int) ∧ fo_vi ((n.i : Int) + 1) = fo_vi ↑a.i ∧ True) ∧ Ent [(0, fo_cl x.b q23 60), (1, F), (2, fo_cl n.n (q15 x) 141), (3, fo_cl n.r q8 30), (4, b.A), (6020, fo_cl g (q196 k j i h) 141), (7040, fo_cl d (q116 f) 30)] (q111 x F a) ∧ List.length x.l - a.i < List.length x.l - n.i))))))))) (∃(a : BudS), (IsRow 30 4 (pvsL x.l) a.v ∧ a.v.n = List.length x.l) ∧ (fo_vp (q141 x) = fo_vp (q141 x) ∧ fo_vp (q194 n) = fo_vp (q194 a) ∧ fo_vp (q195 n) = fo_vp (q195 a) ∧ fo_vl n.v.a n.v.n n.v.cap = fo_vl a.v.a a.v.n a.v.cap ∧ True) ∧ Ent (q111 x F n) (q111 x F a))) ∧ fo_vA λ(u : BudS) _ => (IsRow 30 4 (pvsL x.l) u.v ∧ u.v.n = List.length x.l) → fo_sm u.n 4 ∧ T84 [fo_vp (q141 x), fo_vi (-1)] [fo_cl x.b q23 60] (λs r => T106 [fo_vi 0] (λq p => (∃(a : BudS), q176 a x ∧ (fo_vp (q141 x) = fo_vp (q141 x) ∧ fo_vp (q194 u) = fo_vp (q194 a) ∧ fo_vp (q195 u) = fo_vp (q195 a) ∧ fo_vi 0 = fo_vi 0 ∧ fo_vl u.v.a u.v.n u.v.cap = fo_vl a.v.a a.v.n a.v.cap ∧ fo_vi ↑u.v.n = fo_vi (↑(List.length x.l) : Int) ∧ fo_vi 0 = fo_vi ↑a.i ∧ True) ∧ Ent [(0, fo_pr (Ex.rest (hoR []) (hoB s.b (s.left - 1) []))), (1, F), (2, fo_cl u.n (q15 x) 141), (3, fo_cl u.r q8 30), (4, u.v.A)] (q186 a x F)) ∧ fo_vA λ(o : BudS) _ => q176 o x → fo_Bd ((o.i : Int) < (↑(List.length x.l) : Int)) (QOpOk Tryz.prog (opIn Tryz.f85 17 1) (ixQ 4) ∧ ∃(m : IxQX), [fo_vl o.v.a o.v.n o.v.cap, fo_vi ↑o.i] = (q175 m) ∧ (0 ≤ m.n ∧ m.n < m.len) ∧ T60 o.v.A ⟨m.b, m.o + m.n.toNat * 4, none⟩ (λl => T104 o.v.A ⟨m.b, m.o + m.n.toNat * 4 + 1, none⟩ (λk => T25 o.v.A ⟨m.b, m.o + m.n.toNat * 4 + 2, none⟩ (λj => T60 o.v.A ⟨m.b, m.o + m.n.toNat * 4 + 3, none⟩ (λi => ∀(h : Nat), fo_sm h 0 ∧ fo_sm h 1 ∧ fo_sm h 2 ∧ fo_sm h 3 ∧ true = true ∧ fo_sm o.n 5 ∧ T48 (opIn Tryz.f85 18 5) [fo_vl x.y.kr.a x.y.kr.n x.y.kr.cap, fo_vi ↑o.i] (λg => T25 F ⟨g.b, g.o + g.n.toNat * 1, none⟩ (λf => fo_sm h 0 ∧ fo_sm h 1 ∧ fo_sm h 2 ∧ fo_sm h 3 ∧ T86 [fo_vp (q141 x), fo_vi 0, fo_vs f, agg ⟨[fo_vi l, float f64 k, fo_vs j, fo_vi i]⟩] [fo_pr (Ex.rest (hoR (kvP (List.take o.i x.l))) (hoB x.b o.left (kvP (List.take o.i x.l))))] (λe d => T106 [fo_vi 0] (λc b => fo_rI ((o.i : Int) + 1) ∧ ∃(a : BudS), q176 a x ∧ (fo_vp (q141 x) = fo_vp (q141 x) ∧ fo_vp (q194 o) = fo_vp (q194 a) ∧ fo_vp (q195 o) = fo_vp (q195 a) ∧ fo_vi 0 = fo_vi 0 ∧ fo_vl o.v.a o.v.n o.v.cap = fo_vl a.v.a a.v.n a.v.cap ∧ fo_vi (↑(List.length x.l) : Int) = fo_vi (↑(List.length x.l) : Int) ∧ fo_vi ((o.i : Int) + 1) = fo_vi ↑a.i ∧ True) ∧ Ent [(0, fo_pr (Ex.rest (hoR (putV e.k e.v e.l)) (hoB e.b (lftV e.k e.l e.left) (putV e.k e.v e.l)))), (1, F), (2, fo_cl o.n (q15 x) 141), (3, fo_cl o.r q8 30), (4, o.v.A), (17030, fo_cl h [fo_vi l, float f64 k, fo_vs j, fo_vi i] 30)] (q186 a x F) ∧ List.length x.l - a.i < List.length x.l - o.i))))))))) (fo_C0 134 objC [fo_vi 0] (λb a => fo_sm o.r 0 ∧ fo_sm o.r 1 ∧ fo_sm o.r 2 ∧ fo_sm o.r 3 ∧ fo_sm o.r 0 ∧ fo_sm o.r 1 ∧ fo_sm o.r 2 ∧ fo_sm o.r 3 ∧ Done budC x F (fo_rt (agg ⟨q12⟩)) [(0, fo_pr (Ex.rest (hoR (kvP (List.take o.i x.l))) (hoB x.b o.left (kvP (List.take o.i x.l))))), (1, F), (2, fo_cl o.n (q15 x) 141), (3, fo_cl o.r q12 30), (4, o.v.A)])))) := by
  delta q189 q141 q17 q194 q195 q23 q15 q8 q111 q175 T60 T104 T25 q285 T105 q196 q169 q261 q206 q116 T84 T106 q176 q186 T48 T86 q12 fo_aR fo_sm fo_rI fo_s5 fo_C0 fo_C3 fo_O4 fo_vi fo_vs fo_vb fo_vp fo_vl fo_cl fo_pr fo_Bd fo_rt fo_vA
  obtain ⟨hl, hp, hy⟩ := hc
  obtain ⟨hkk, hv⟩ := hr
  have hkk : Srcd F x.y.kr.a (ksL x.l) := hkk
  have hv : Srcd F x.y.vr.a (lfsL x.l) := hv
  have hkn := hy.kn
  have hvn := hy.vn
  intro b b1
  refine ⟨⟨rfl, rfl⟩, ⟨⟨rfl, rfl⟩, ⟨⟨b, b1, 0, 0, nilRow⟩, ⟨fo_zl _, .nil rfl, rfl⟩, ⟨rfl, rfl, rfl, rfl, rfl, by rw [hvn], rfl, fo_tv⟩, Ent.pick [0, 1, 1000, 1010, 999] rfl rfl⟩, ?_⟩, ?_⟩
  · clear b b1
    rintro ⟨n, r, i, _, vr⟩ js ⟨h1, hvr, hn⟩
    dsimp only at h1 hvr hn ⊢
    refine br_decide (λhlt => ?_) (λhge => ?_)
    · have hlt : i < x.l.length := by omega
      obtain ⟨c, o, ha⟩ := hy.v.src.some (by omega)
      rw [ha] at hv ⊢
      obtain ⟨q, hq⟩ : ∃ q, x.l[i]? = some q := ⟨x.l[i], fo_ge hlt⟩
      refine ⟨ixq_ok 8 rfl rfl rfl rfl, ⟨c, o, x.y.vr.n, x.y.vr.cap, i⟩, rfl, ⟨by dsimp only; omega, by dsimp only; omega⟩, q.2.k, ?_, q.2.f, ?_, q.2.s, ?_, 0, ?_, ?_, ?_, ?_, ?_, λb2 => ⟨⟨rfl, rfl⟩, ⟨rfl, rfl⟩, ⟨rfl, rfl⟩, ⟨rfl, rfl⟩, ⟨rfl, rfl⟩, ⟨rfl, rfl⟩, ⟨rfl, rfl⟩, ⟨rfl, rfl⟩, ⟨rfl, rfl⟩, ⟨rfl, rfl⟩, ⟨rfl, rfl⟩, ⟨rfl, rfl⟩, ⟨rfl, rfl⟩, ⟨rfl, rfl⟩, ⟨rfl, rfl⟩, ⟨rfl, rfl⟩, bld_ok, rfl, ⟨q.2, some ⟨x.b, 0, none⟩⟩, rfl, rfl, fo_tv, fo_tv, λ_ _ b3 => ⟨append_ok (P := Tryz.prog) 4 40 rfl rfl rfl rfl rfl rfl rfl (by decide), rfl, ⟨vr, pvsL (x.l.take i), some ⟨b3, 0, none⟩, 1, 1, pvL q.2⟩, rfl, rfl, ⟨hvr, rfl, pvL_one q.2, by dsimp only; omega, by dsimp only; omega, λh => nomatch h⟩, ?_, λv2 hv2 => ?_⟩⟩⟩
      · exact lk0 hv hq (by decide) rfl
      · exact lk1 hv hq (by decide) rfl
      · exact lk1 hv hq (by decide) rfl
      · exact lk1 hv hq (by decide) rfl
      · exact lk1 hv hq (by decide) rfl
      · exact lk1 hv hq (by decide) rfl
      · exact lk1 hv hq (by decide) rfl
      · exact lk1 hv hq (by decide) rfl
      · intro a ha
        cases ha
        exact Seg.rest (j := 7040) (by simp) (Seg.cells (λj u hj => by rw [fo_za]; exact hj))
      · obtain ⟨g1, g2, -⟩ := hv2
        dsimp only at g1 g2
        refine ⟨⟨by omega, by omega⟩, ⟨n, r, i + 1, 0, v2⟩, ⟨hlt, ?_, by dsimp only; omega⟩, ⟨rfl, rfl, rfl, rfl, rfl, rfl, rfl, fo_tv⟩, Ent.pick [0, 1, 2, 3, 4] rfl rfl, by dsimp only; omega⟩
        dsimp only
        rw [List.take_add_one, hq, Option.toList_some]
        unfold pvsL at g1 ⊢
        rw [List.flatMap_append]
        simpa using g1
    · have hi : i = x.l.length := by omega
      rw [hi, List.take_length] at hvr
      exact ⟨⟨n, r, 0, 0, vr⟩, ⟨hvr, by dsimp only; omega⟩, ⟨rfl, rfl, rfl, rfl, fo_tv⟩, Ent.pick [0, 1, 2, 3, 4] rfl rfl⟩
  · clear b b1
    rintro ⟨n, r, _, _, vr⟩ js ⟨hvr, hn⟩
    dsimp only at hvr hn ⊢
    refine ⟨⟨rfl, rfl⟩, plh_ok, rfl, ⟨x.b, 10000⟩, rfl, rfl, ⟨by dsimp only; omega, by dsimp only; omega⟩, fo_tv, λ_ _ => ⟨chk_ok, rfl, (), rfl, rfl, fo_tv, fo_tv, λ_ _ => ⟨⟨⟨n, r, 0, 9999, vr⟩, ⟨fo_zl _, hvr, by dsimp only; omega, by dsimp only; omega⟩, ⟨rfl, rfl, rfl, rfl, rfl, by rw [hn], rfl, fo_tv⟩, Ent.pick [0, 1, 2, 3, 4] rfl rfl⟩, ?_⟩⟩⟩
    clear hvr hn
    rintro ⟨n, r, i, left, vr⟩ js ⟨h1, hvr, h2, h3⟩
    dsimp only at h1 hvr h2 h3 ⊢
    refine br_decide (λhlt => ?_) (λhge => ?_)
    · have hlt : i < x.l.length := by omega
      have hvl := hvr.len
      have hvn2 : vr.n = x.l.length := by
        have : (pvsL x.l).length = x.l.length * 4 := flat_len (f := λp : ByteArray × Pv => pvL p.2) (λ_ => rfl) x.l
        omega
      obtain ⟨c, ha⟩ := hvr.at0 (by omega)
      obtain ⟨c2, o2, ha2⟩ := hy.k.src.some (by omega)
      obtain ⟨q, hq⟩ : ∃ q, x.l[i]? = some q := ⟨x.l[i], fo_ge hlt⟩
      have hp := hp q (fo_mg hq)
      have hs := hvr.srcd
      have hlen := kvP_len (x.l.take i)
      rw [List.length_take] at hlen
      rw [ha] at hs
      rw [ha2] at hkk
      have hkq : (ksL x.l)[i]? = some (.string q.1) := by
        unfold ksL strs
        rw [List.map_map, fo_gm, hq] <;> rfl
      rw [ha, ha2]
      refine ⟨ixq_ok 4 rfl rfl rfl rfl, ⟨c, 0, vr.n, vr.cap, i⟩, rfl, ⟨by dsimp only; omega, by dsimp only; omega⟩, q.2.k, ?_, q.2.f, ?_, q.2.s, ?_, 0, ?_, λb2 => ⟨⟨rfl, rfl⟩, ⟨rfl, rfl⟩, ⟨rfl, rfl⟩, ⟨rfl, rfl⟩, rfl, ⟨rfl, rfl⟩, ixq_ok 1 rfl rfl rfl rfl, ⟨c2, o2, x.y.kr.n, x.y.kr.cap, i⟩, rfl, ⟨by dsimp only; omega, by dsimp only; omega⟩, q.1, ?_, ⟨rfl, rfl⟩, ⟨rfl, rfl⟩, ⟨rfl, rfl⟩, ⟨rfl, rfl⟩, puh_ok, rfl, ⟨x.b, left, kvP (x.l.take i), q.1, q.2⟩, rfl, rfl, ⟨by dsimp only; omega, by dsimp only; omega, hp.1, hp.2, by dsimp only; omega⟩, fo_tv, λ_ _ => ⟨chk_ok, rfl, (), rfl, rfl, fo_tv, fo_tv, λ_ _ => ⟨⟨by omega, by omega⟩, ⟨n, r, i + 1, lftV q.1 (kvP (x.l.take i)) left, vr⟩, ⟨hlt, hvr, ?_, ?_⟩, ⟨rfl, rfl, rfl, rfl, by rw [ha], rfl, rfl, fo_tv⟩, Ent.pick [0, 1, 2, 3, 4] rfl ?_, by dsimp only; omega⟩⟩⟩⟩
      · exact lv0 hs hq (by decide) rfl
      · exact lv1 hs hq (by decide) rfl
      · exact lv1 hs hq (by decide) rfl
      · exact lv1 hs hq (by decide) rfl
      · have := Srcd.look hkk hkq
        dsimp only
        rw [fo_tn, Nat.mul_one]
        exact this
      · show 9999 ≤ lftV q.1 (kvP (x.l.take i)) left + ((i + 1 : Nat) : Int)
        unfold lftV
        cases hasK q.1 (kvP (x.l.take i)) <;> simp only [fo_ct, fo_cf] <;> omega
      · show lftV q.1 (kvP (x.l.take i)) left ≤ 10000
        unfold lftV
        cases hasK q.1 (kvP (x.l.take i)) <;> simp only [fo_ct, fo_cf] <;> omega
      · dsimp only
        rw [kvP_take hq]
        first | rfl | (rw [ha, ha2] <;> rfl) | (rw [ha] <;> rfl)
    · have hi : i = x.l.length := by omega
      rw [hi, List.take_length]
      exact ⟨obk_ok, rfl, (), rfl, rfl, fo_tv, fo_tv, λ_ _ => ⟨⟨rfl, rfl⟩, ⟨rfl, rfl⟩, ⟨rfl, rfl⟩, ⟨rfl, rfl⟩, ⟨rfl, rfl⟩, ⟨rfl, rfl⟩, ⟨rfl, rfl⟩, ⟨rfl, rfl⟩, left, fo_tv, rfl, Ent.pick [0, 1] rfl rfl⟩⟩
theorem bud_ok : fo_k 85 budC := fo 72 Tryz.func85 (λ_ _ => [(0, 0, .n 1000), (0, 1, .n 1010), (6, 0, .qo (ixQ 8)), (6, 1, .q [.ex 1 (.int .i64), .ex 1 (.float .f64), .ex 1 .str, .ex 1 (.int .i64), .ex 1 (.is (.bool false)), .ex 1 (.is (.slice none 0 0)), .ex 1 (.is (.slice none 0 0)), .ex 1 (.is (.bool false))]), (6, 2, .n 6020), (6, 3, .w [.aq 6020, .aq 6020, .aq 6020, .aq 6020, .aq 6020, .aq 6020, .aq 6020, .aq 6020]), (7, 1, .q [.aq 6020, .aq 6020, .aq 6020, .aq 6020, .aq 6020, .aq 6020, .aq 6020, .aq 6020]), (7, 3, .c bldC [] []), (7, 4, .n 7040), (7, 5, .o (apC 30 4 40) [4] [4]), (13, 1, .c plC [0] [0]), (14, 1, .c chkC [] []), (17, 1, .qo (ixQ 4)), (17, 2, .q [.ex 4 (.int .i64), .ex 4 (.float .f64), .ex 4 .str, .ex 4 (.int .i64)]), (17, 3, .n 17030), (17, 5, .w [.aq 17030, .aq 17030, .aq 17030, .aq 17030]), (18, 5, .qo (ixQ 1)), (18, 6, .q [.ex 1 .str]), (18, 7, .q [.aq 17030, .aq 17030, .aq 17030, .aq 17030]), (18, 8, .c puhC [0] [0]), (18, 9, .c chkC [] []), (20, 1, .c objC [] []), (20, 2, .w [.aq 3, .aq 3, .aq 3, .aq 3])]) [(1, 1, OH.q [LH.aq (1000 : Nat)]), (4, 1, OH.q [LH.aq (1000 : Nat)]), (9, 1, OH.q [LH.aq (2 : Nat)]), (18, 3, OH.q [LH.aq (2 : Nat)])] budInv budCut fo_o [LH.aq 3, LH.aq 3, LH.aq 3, LH.aq 3] bud_vc
end
section
open Go
set_option maxHeartbeats 1000000
noncomputable def pzc : Code := codeOf Tryz.f33
noncomputable def pza : Func := { Tryz.f33 with body := some (.seq (cHd pzc) (.region 1 #[] false)) }
noncomputable def pzb : Func := { Tryz.f33 with body := some (.seq .skip (cTl 2 pzc)) }
structure PzX where
  k : RdK
  h : Nat
  w : ByteArray
  l : KVs
  j : Nat
structure PzX.ok (x : PzX) : Prop where
  w : x.w.size ≤ 1048576
  k : x.k.ok
  o : jpkR0 x.w 0 = 123
  a : ObA x.k x.w 1 x.l x.j
  j : x.j ≤ 1048576
  e : jpkR0 x.w x.j = -1
  l : x.l.length ≤ 9990
  v : ∀ p ∈ x.l, p.1.size ≤ 1048576 ∧ p.2.ok
abbrev pzaC : Con where
  X := PzX
  Y := Unit
  args x := [.pointer (some ⟨x.h, 0, none⟩), .string x.w]
  pre x := [ho0 x.h 10000]
  cond _ := True
  rdc _ _ := True
  rel _ _ := False
  val _ _ := .returned (.tuple #[])
  post _ _ := []
structure Pz2 where
  b4 : Nat
  b5 : Nat
def pzaCut (x : PzX) (F : Atom) : Nat → Option Inv := fun
  | 1 => some { X := Pz2, P := λ_ => True, mu := λ_ => 0, lv := λd => [(0, .pointer (some ⟨x.h, 0, none⟩)), (1, .string x.w), (4, .pointer (some ⟨d.b4, 0, none⟩)), (5, .pointer (some ⟨d.b5, 0, none⟩))], st := λd => [ho0 x.h 10000, F, .cells d.b4 [.int .i64 0, .float .f64 0, .string ⟨#[]⟩, .int .i64 0] 30, .cells d.b5 [.int .i64 0] 32] }
  | _ => none
def pzaOv (_x : PzX) (_F : Atom) : List (Nat × Nat × OH) := [(0, 0, .n 1000), (0, 1, .n 1010)]
def rhp : List LH := [.aq 2, .aq 2, .aq 2, .aq 2, .aq 3]
def pzaL (_ : PzX) : List (Nat × Value) := []
noncomputable def pza_H (x : Con.X pzaC) (F : Atom) : Hints where
  op := hk ((pzaOv x F) ++ [])
  inv := (λ_ _ _ => none) x F
  cut := pzaCut x F
  ord := (λ_ => [])
theorem pza_vc (x : PzX) (F : Atom) (hc : pzaC.cond x) (hr : pzaC.rdc x F) :
 (∀(c b : Nat), ∃(a : Pz2), True ∧ (fo_vp (some ⟨x.h, 0, none⟩) = fo_vp (some ⟨x.h, 0, none⟩) ∧ fo_vs x.w = fo_vs x.w ∧ fo_vp (q17 c) = fo_vp (some ⟨a.b4, 0, none⟩) ∧ fo_vp (q17 b) = fo_vp (some ⟨a.b5, 0, none⟩) ∧ True) ∧ Ent [(0, fo_cl x.h q23 60), (1, F), (1000, fo_cl c q8 30), (1010, fo_cl b [fo_vi 0] 32)] [(0, fo_cl x.h q23 60), (1, F), (2, fo_cl a.b4 q8 30), (3, fo_cl a.b5 [fo_vi 0] 32)]) ∧ fo_vA λ(b : Pz2) _ => True → True := by
  delta q17 q23 q8 fo_vi fo_vs fo_vp fo_vl fo_cl fo_vA
  exact ⟨λb b1 => ⟨⟨b, b1⟩, fo_tv, ⟨rfl, rfl, rfl, rfl, fo_tv⟩, Ent.pick [0, 1, 1000, 1010] rfl rfl⟩, λ_ _ _ => fo_tv⟩
theorem pza_body (x : Con.X pzaC) (F : Atom) (hc : pzaC.cond x) (hr : pzaC.rdc x F) : BodyD Tryz.prog 22 pza (pza_H x F) rhp (codeOf pza) (ent (Con.args pzaC x)) (ofL (Con.pre pzaC x ++ [F])) (pzaL x) (Done pzaC x F) :=
  Eq.mpr (by kernel_rfl) (pza_vc x F hc hr)
structure PzbX where
  x : PzX
  b4 : Nat
  b5 : Nat
abbrev pzbC : Con where
  X := PzbX
  Y := Int
  args z := [.pointer (some ⟨z.x.h, 0, none⟩), .string z.x.w, undef, undef, .pointer (some ⟨z.b4, 0, none⟩), .pointer (some ⟨z.b5, 0, none⟩)]
  pre z := [ho0 z.x.h 10000, .cells z.b4 [.int .i64 0, .float .f64 0, .string ⟨#[]⟩, .int .i64 0] 30, .cells z.b5 [.int .i64 0] 32]
  cond z := z.x.ok
  rdc z F := z.x.k.K.rd F ∧ Utf F
  rel _ _ := True
  val _ _ := .returned (.tuple #[objV, .int .i64 0])
  post z y := [hoA z.x.h y (kvP z.x.l)]
  rmono z _ _ hs h := ⟨z.x.k.K.mono h.1 hs, h.2.sub hs⟩
def pzbCut (z : PzbX) (F : Atom) : Nat → Option Inv := fun
  | 2 => some { X := Unit, P := λ_ => True, mu := λ_ => 0, lv := λ_ => [(0, .pointer (some ⟨z.x.h, 0, none⟩)), (1, .string z.x.w), (4, .pointer (some ⟨z.b4, 0, none⟩)), (5, .pointer (some ⟨z.b5, 0, none⟩))], st := λ_ => [ho0 z.x.h 10000, F, .cells z.b4 [.int .i64 0, .float .f64 0, .string ⟨#[]⟩, .int .i64 0] 30, .cells z.b5 [.int .i64 0] 32] }
  | _ => none
def at8 (n : Nat) : List LH := [.aq n, .aq n, .aq n, .aq n, .aq n, .aq n, .aq n, .aq n]
def pzbOv (_z : PzbX) (_F : Atom) : List (Nat × Nat × OH) := [(2, 2, .n 2020), (3, 1, .c voC [2020] [2020, 3021, 3022]), (3, 2, .n 3020), (3, 3, .w (at8 3020)), (4, 1, .c (pkkC (-1)) [] []), (6, 0, .q (at8 3020)), (6, 2, .c budC [0] [0]), (6, 3, .w [.aq 2, .aq 2, .aq 2, .aq 2]), (6, 4, .w [.aq 3])]
def pzbL (z : PzbX) : List (Nat × Value) := [(4, .pointer (some ⟨z.b4, 0, none⟩))]
noncomputable def pzb_H (x : Con.X pzbC) (F : Atom) : Hints where
  op := hk ((pzbOv x F) ++ [])
  inv := (λ_ _ _ => none) x F
  cut := pzbCut x F
  ord := (λ_ => [])
def T107 := fo_C2 83 (pkkC (-1 : Int)) (λw0 => w0.w.size ≤ 1048576 ∧ w0.i ≤ 1048576 ∧ jpkR0 w0.w w0.i = (-1 : Int)) JrIn
abbrev q172 (x : PzbX) (F : Atom) (g : VoX) (e : Nat) (f : MnY) := [(0, fo_cl x.x.h q23 60), (1, F), (2, fo_cl x.b4 q8 30), (3, fo_cl x.b5 [fo_vi 0] 32), (2020, fo_cl g.b [fo_vs g.w, fo_vi ↑g.j] 138), (3020, fo_cl e (q32 f) 141), (3021, f.kr.A), (3022, f.vr.A)]
theorem pzb_vc (x : PzbX) (F : Atom) (hc : pzbC.cond x) (hr : pzbC.rdc x F) :
 (∃(a : Unit), True ∧ (fo_vp (some ⟨x.x.h, 0, none⟩) = fo_vp (some ⟨x.x.h, 0, none⟩) ∧ fo_vs x.x.w = fo_vs x.x.w ∧ fo_vp (some ⟨x.b4, 0, none⟩) = fo_vp (some ⟨x.b4, 0, none⟩) ∧ fo_vp (some ⟨x.b5, 0, none⟩) = fo_vp (some ⟨x.b5, 0, none⟩) ∧ True) ∧ Ent [(0, fo_cl x.x.h q23 60), (1, fo_cl x.b4 q8 30), (2, fo_cl x.b5 [fo_vi 0] 32), (3, F)] [(0, fo_cl x.x.h q23 60), (1, F), (2, fo_cl x.b4 q8 30), (3, fo_cl x.b5 [fo_vi 0] 32)]) ∧ fo_vA λ(j : Unit) _ => True → ∀(h : Nat), fo_C4 82 voC (λg => (g.w.size ≤ 1048576 ∧ g.i ≤ 1048570 ∧ g.k.ok ∧ ObA g.k g.w (g.i + 1) g.l g.j ∧ List.length g.l ≤ 1000000) ∧ jpkR0 g.w g.i = 123 ∧ g.j ≤ 1048576 ∧ isBk (jpkR0 g.w g.j) = false) (λg rr => g.k.K.3 rr ∧ Utf rr) (λg f => MnY.ok g.l f) [fo_vp (q17 h), fo_vi 0] [fo_cl h [fo_vs x.x.w, fo_vi 0] 138] (fo_aR [(0, fo_cl x.x.h q23 60), (1, F), (2, fo_cl x.b4 q8 30), (3, fo_cl x.b5 [fo_vi 0] 32), (2020, fo_cl h [fo_vs x.x.w, fo_vi 0] 138)] [2020]) (λg f => ∀(e : Nat), fo_s5 e (fo_sm e 5 ∧ fo_sm e 6 ∧ fo_sm e 7 ∧ T107 [fo_vp (q17 h)] (fo_aR (q172 x F g e f) []) (λd c => fo_s5 e (fo_sm e 5 ∧ fo_sm e 6 ∧ fo_sm e 7 ∧ fo_C4 85 budC (λb => List.length b.l ≤ 9990 ∧ (∀(a : ByteArray × Pv), a ∈ b.l → a.fst.size ≤ 1048576 ∧ a.snd.ok) ∧ MnY.ok b.l b.y) (λb rr => Srcd rr b.y.kr.a (ksL b.l) ∧ Srcd rr b.y.vr.a (lfsL b.l)) (λ_ _ => True) [agg ⟨q32 f⟩, fo_vp (some ⟨x.x.h, 0, none⟩)] [fo_cl x.x.h q23 60] (fo_aR (q172 x F g e f) [0]) (λb a => fo_sm x.b4 0 ∧ fo_sm x.b4 1 ∧ fo_sm x.b4 2 ∧ fo_sm x.b4 3 ∧ fo_sm x.b5 0 ∧ fo_sm x.b4 0 ∧ fo_sm x.b4 1 ∧ fo_sm x.b4 2 ∧ fo_sm x.b4 3 ∧ fo_sm x.b5 0 ∧ Done pzbC x F (fo_rt (tuple ⟨[agg ⟨q12⟩, fo_vi 0]⟩)) [(0, fo_pr (Ex.rest (hoR (kvP b.l)) (hoB b.b a (kvP b.l)))), (1, F), (2, fo_cl x.b4 q12 30), (3, fo_cl x.b5 [fo_vi 0] 32), (2020, fo_cl g.b [fo_vs g.w, fo_vi ↑g.j] 138), (3020, fo_cl e (q32 f) 141), (3021, f.kr.A), (3022, f.vr.A)]))))) := by
  delta q23 q8 q17 T107 q32 q172 q12 fo_aR fo_sm fo_s5 fo_C2 fo_C4 fo_vi fo_vs fo_vb fo_vp fo_vl fo_cl fo_pr fo_rt fo_vA
  obtain ⟨⟨k, h, ws, l, j⟩, b4, b5⟩ := x
  obtain ⟨h1, h2, h3, h4, h5, h6, h7, h8⟩ := hc
  obtain ⟨hr, hu⟩ := hr
  have hr : k.K.rd F := hr
  dsimp only at h1 h2 h3 h4 h5 h6 h7 h8 ⊢
  refine ⟨⟨(), fo_tv, ⟨rfl, rfl, rfl, rfl, fo_tv⟩, Ent.pick [0, 3, 1, 2] rfl rfl⟩, λ_ _ _ b => ⟨vo_ok, rfl, ⟨k, b, ws, 0, l, j⟩, rfl, rfl, ⟨⟨h1, fo_zl _, h2, h4, by dsimp only; omega⟩, h3, h5, by dsimp only; rw [h6] <;> rfl⟩, ⟨k.K.mono hr (sub_rest 1 (by simp) rfl), Utf.rest (j := 1) (by simp) hu⟩, λy hy b1 => ⟨⟨rfl, rfl⟩, ⟨rfl, rfl⟩, ⟨rfl, rfl⟩, ⟨rfl, rfl⟩, ⟨rfl, rfl⟩, ⟨rfl, rfl⟩, ⟨rfl, rfl⟩, ⟨rfl, rfl⟩, pkk_ok, rfl, ⟨b, ws, j, ⟨#[]⟩, 0⟩, rfl, rfl, ⟨h1, h5, h6⟩, JrIn.sub (sub_rest 2020 (by simp) rfl) (.jr ⟨b, ws, j, ⟨#[]⟩, 0⟩), λ_ _ => ⟨⟨rfl, rfl⟩, ⟨rfl, rfl⟩, ⟨rfl, rfl⟩, ⟨rfl, rfl⟩, ⟨rfl, rfl⟩, ⟨rfl, rfl⟩, ⟨rfl, rfl⟩, ⟨rfl, rfl⟩, bud_ok, rfl, ⟨h, l, y⟩, rfl, rfl, ⟨h7, h8, hy⟩, ⟨row_srcd 3021 (by simp) rfl hy.k, row_srcd 3022 (by simp) rfl hy.v⟩, λleft _ => ⟨⟨rfl, rfl⟩, ⟨rfl, rfl⟩, ⟨rfl, rfl⟩, ⟨rfl, rfl⟩, ⟨rfl, rfl⟩, ⟨rfl, rfl⟩, ⟨rfl, rfl⟩, ⟨rfl, rfl⟩, ⟨rfl, rfl⟩, ⟨rfl, rfl⟩, left, fo_tv, rfl, Ent.pick [0, 1] rfl rfl⟩⟩⟩⟩⟩
theorem pzb_body (x : Con.X pzbC) (F : Atom) (hc : pzbC.cond x) (hr : pzbC.rdc x F) : BodyD Tryz.prog 22 pzb (pzb_H x F) rhp (codeOf pzb) (ent (Con.args pzbC x)) (ofL (Con.pre pzbC x ++ [F])) (pzbL x) (Done pzbC x F) :=
  Eq.mpr (by kernel_rfl) (pzb_vc x F hc hr)
end
section
open Go
def capP (b4 b5 : Nat) : Deferred := { target := .fn (.func 81) #[pV b4, pV b5], args := #[] }
theorem wp_deferP {Q : Exit → Act → World → Prop} {T : Tm} {a : Act} {w : World} {b4 b5 : Nat} (hrel : Rel 22 T a) (h4 : T.at 4 = pV b4) (h5 : T.at 5 = pV b5)
    (h : ∀ T' a', a'.defers = capP b4 b5 :: a.defers → Rel 22 T' a' → (∀ i, i ≠ 8 → T'.at i = T.at i) → Q .normal a' w) : (cHd (cTl 1 pzc)).wp Tryz.prog Q a w := by
  have e : cHd (cTl 1 pzc) = .region 1 #[opIn Tryz.f33 1 0, opIn Tryz.f33 1 1] false := by kernel_rfl
  rw [e]
  refine wp_region ?_
  show wpOps _ _ _ [0, 1] a w
  have r1 : (execOp (ev T) (opIn Tryz.f33 1 0)).run Tryz.prog w = .ok (.value (.func (.func 81) #[] #[T.at 4, T.at 5])) w := by kernel_rfl
  refine wpOps_cons (o := opIn Tryz.f33 1 0) rfl rfl ?_
  unfold Oper.wp
  rw [hrel.eval, r1, Oper.upon_value]
  have hrel2 := hrel.put (opIn Tryz.f33 1 0).dst (.func (.func 81) #[] #[T.at 4, T.at 5])
  refine wpOps_cons (o := opIn Tryz.f33 1 1) rfl rfl ?_
  unfold Oper.wp
  have r2 : (execOp (ev (putT 22 (opIn Tryz.f33 1 0).dst (.func (.func 81) #[] #[T.at 4, T.at 5]) T)) (opIn Tryz.f33 1 1)).run Tryz.prog w = .ok (.defer { target := .fn (.func 81) #[T.at 4, T.at 5], args := #[] }) w := by kernel_rfl
  rw [hrel2.eval, r2, Oper.upon_defer]
  refine h _ _ ?_ ((hrel2.defers _).put (opIn Tryz.f33 1 1).dst undef) ?_
  · rw [put_defers, h4, h5]
    show _ :: (a.put _ _).defers = _
    rw [put_defers] <;> rfl
  · intro i hi
    show (putT 22 none undef (putT 22 (some 8) _ T)).at i = _
    show (putT 22 (some 8) _ T).at i = _
    rw [putT_at]
    rw [if_neg (λh => hi h.2)]
theorem codp5 : codeOf Tryz.f81 = .seq (.region 0 #[opIn Tryz.f81 0 0, opIn Tryz.f81 0 1] false) (cTl 1 (codeOf Tryz.f81)) := by kernel_rfl
theorem codp5b : ∃ A, cTl 1 (codeOf Tryz.f81) = .seq (.region 1 #[opIn Tryz.f81 1 0, opIn Tryz.f81 1 1] false) (.cond (.tmp 5) A .skip) := ⟨match cTl 2 (codeOf Tryz.f81) with | .cond _ a _ => a | c => c, by kernel_rfl⟩
theorem catp_head {Q : Exit → Act → List Frame → World → Prop} {b4 b5 : Nat} {v : Value} {cs cs' : List Frame} {w : World} (hr : recoverD cs = some (v, cs') ∨ (recoverD cs = none ∧ v = .nilIface ∧ cs' = cs))
    (h : ∀ T a, Rel 9 T a → a.defers = [] → T.at 0 = pV b4 → T.at 1 = pV b5 → T.at 2 = v → (cTl 1 (codeOf Tryz.f81)).wpS Tryz.prog Q a cs' w) :
    (codeOf Tryz.f81).wpS Tryz.prog Q { tmps := #[pV b4, pV b5] ++ Array.replicate (9 - 2) undef, defers := [] } cs w := by
  rw [codp5]
  refine wpS_seq (wpS_region ?_)
  have hrel := rel_ent (N := 9) [pV b4, pV b5] (Nat.le_of_ble_eq_true rfl)
  show wpOpsS _ _ _ [0, 1] { tmps := ⟨[pV b4, pV b5]⟩ ++ Array.replicate (9 - 2) undef, defers := [] } cs w
  refine wpOpsS_cons (v := v) (cs' := cs') (w' := w) (o := opIn Tryz.f81 0 0) rfl rfl (.inl ⟨?_, hr⟩) ?_
  · rw [show (execOp _ (opIn Tryz.f81 0 0)).run Tryz.prog w = .ok .recover w from rfl]
  have hrel2 := hrel.put (opIn Tryz.f81 0 0).dst v
  refine wpOpsS_cons (v := v) (cs' := cs') (w' := w) (o := opIn Tryz.f81 0 1) rfl rfl (.inr ⟨?_, rfl⟩) ?_
  · have : (execOp (ev (putT 9 (opIn Tryz.f81 0 0).dst v (ent [pV b4, pV b5]))) (opIn Tryz.f81 0 1)).run Tryz.prog w = .ok (.value v) w := by kernel_rfl
    rw [← hrel2.eval] at this
    exact this
  have hrel3 := hrel2.put (opIn Tryz.f81 0 1).dst v
  exact h _ _ hrel3 (by rw [put_defers, put_defers]) (by kernel_rfl) (by kernel_rfl) (by kernel_rfl)
theorem catp_idle (b4 b5 : Nat) (w : World) : CallsD Tryz.prog 81 #[pV b4, pV b5] .returning w λe u' w' => e = .returned (.tuple #[]) ∧ u' = .returning ∧ w' = w := by
  refine callsD_of_wpS (c := codeOf Tryz.f81) Tryz.func81 (by kernel_rfl) λc₀ cs hu => ?_
  refine catp_head (v := .nilIface) (cs' := c₀ :: cs) (.inr ⟨by simp [recoverD, hu], rfl, rfl⟩) λT a hrel hd _ _ h2 => ?_
  obtain ⟨A, hA⟩ := codp5b
  rw [hA]
  refine wpS_of_wp (wp_seq (wp_region ?_))
  show wpOps _ _ _ [0, 1] a w
  have hrel' : Rel 9 (over T.at [(2, .nilIface)]) a := over_rel hrel ⟨h2, fo_tv⟩
  refine wpOps_cons (o := opIn Tryz.f81 1 0) rfl rfl ?_
  unfold Oper.wp
  rw [hrel'.eval, show (execOp (ev (over T.at [(2, .nilIface)])) (opIn Tryz.f81 1 0)).run Tryz.prog w = .ok (.value .nilIface) w by kernel_rfl, Oper.upon_value]
  have hrel2 := hrel'.put (opIn Tryz.f81 1 0).dst .nilIface
  refine wpOps_cons (o := opIn Tryz.f81 1 1) rfl rfl ?_
  unfold Oper.wp
  rw [hrel2.eval, show (execOp (ev (putT 9 (opIn Tryz.f81 1 0).dst .nilIface (over T.at [(2, .nilIface)]))) (opIn Tryz.f81 1 1)).run Tryz.prog w = .ok (.value (.bool false)) w by kernel_rfl, Oper.upon_value]
  have hrel3 := hrel2.put (opIn Tryz.f81 1 1).dst (.bool false)
  show Code.wp _ _ _ _ _
  refine wp_cond (t := false) ?_ (wp_skip ?_)
  · rw [hrel3.eval]; kernel_rfl
  · refine ⟨by rw [put_defers, put_defers]; exact hd, .returning, ?_, .tuple #[], by kernel_rfl, rfl, rfl, rfl⟩
    rw [← hu]
abbrev przC : Con where
  X := PzX
  Y := Int
  args x := [.pointer (some ⟨x.h, 0, none⟩), .string x.w]
  pre x := [ho0 x.h 10000]
  cond x := x.ok
  rdc x F := x.k.K.rd F ∧ Utf F
  rel _ _ := True
  val _ _ := .returned (.tuple #[objV, .int .i64 0])
  post x y := [hoA x.h y (kvP x.l)]
  rmono x _ _ hs h := ⟨x.k.K.mono h.1 hs, h.2.sub hs⟩
theorem codp2 : Tryz.f33.body = some (.seq (cHd pzc) (.seq (cHd (cTl 1 pzc)) (cTl 2 pzc))) := by kernel_rfl
theorem prz_end {z : PzbX} {F : Atom} {I : Imm} {w : World} {R : Ending → World → Prop}
    (hret : ∀ w' J y, Imm.le I J → Sat J (ofL (pzbC.post z y ++ [F])) w' → Env w w' → R (.returned (.tuple #[objV, .int .i64 0])) w') :
    ∀ e a' w', Aft 22 I w [capP z.b4 z.b5] ((λe T S => match e with
    | .normal => match pzbL z with | [] => True | _ :: _ => rd Tryz.prog S (resSem pzb T) rhp λv => Done pzbC z F (.returned v) S
    | .ret => rd Tryz.prog S (resSem pzb T) rhp λv => Done pzbC z F (.returned v) S
    | .panic ch => Eqs T (pzbL z) ∧ Done pzbC z F (.panicked ch) S
    | _ => False : Exit → Tm → St → Prop) e) a' w' → bodyPostD Tryz.prog Tryz.f33 R e a' w' := by
  intro e a' w' haft
  obtain ⟨T', S', J, g1, g2, g3, g4, g5, g6⟩ := haft
  have fin : rd Tryz.prog S' (resSem pzb T') rhp (λv => Done pzbC z F (.returned v) S') → Leaves Tryz.prog Tryz.f33 a'.tmps R a'.defers .returning w' := by
    intro g6
    obtain ⟨v, hrun, ⟨⟨y, hy, hv, hent⟩⟩⟩ := rd_sound g4 _ _ _ g6
    obtain ⟨J', hle, hs2⟩ := hent.h J w' g4
    rw [g2]
    refine leaves_cons (by simp) (f := 81) (args := #[pV z.b4, pV z.b5]) (by kernel_rfl) ((catp_idle _ _ _).mono ?_)
    rintro _ _ w2 ⟨rfl, rfl, e2⟩
    replace e2 := e2.symm
    subst e2
    have hres : (results Tryz.f33 a'.tmps).run Tryz.prog w' = .ok v w' := by
      rw [show results Tryz.f33 a'.tmps = results pzb a'.tmps from rfl, results_eq g1]; exact hrun
    exact ⟨v, hres, hv ▸ hret w' J' y (Imm.le_trans g3 hle) hs2 g5⟩
  cases e with
  | normal => exact fin g6
  | ret => exact fin g6
  | panic ch =>
    obtain ⟨hq, ⟨⟨y, hy, hv, hent⟩⟩⟩ := g6
    cases hv
  | _ => exact g6.elim
theorem prz_ok : fo_k 33 przC := ⟨λx F I w hc hr hs => by
  have hc : x.ok := hc
  refine calls_of_wp_defers Tryz.func33 codp2 ?_
  have hm : Tryz.prog.follows .mixedOrders = true := by kernel_rfl
  have hrel := rel_ent (N := 22) [.pointer (some ⟨x.h, 0, none⟩), .string x.w] (Nat.le_of_ble_eq_true rfl)
  have hA := pza_body x F trivial trivial
  unfold BodyD at hA
  refine wp_cut hm (H := pza_H x F) (y := .region 1 #[] false) (V := (pzaCut x F 1).get rfl) (by kernel_rfl) rfl hA hrel rfl hs (λe a' w' hne haft => ?_) ?_
  · obtain ⟨T', S', J, g1, g2, g3, g4, g5, g6⟩ := haft
    cases e with
    | normal => exact absurd rfl hne
    | ret =>
      obtain ⟨v, hrun, ⟨⟨_, hbad, _, _⟩⟩⟩ := rd_sound g4 _ _ _ g6
      exact hbad.elim
    | panic ch =>
      obtain ⟨_, ⟨⟨_, hbad, _, _⟩⟩⟩ := g6
      exact hbad.elim
    | _ => exact g6.elim
  rintro ⟨b4, b5⟩ js J a w1 - - hrel1 hd1 hle1 hs1 henv1
  refine wp_seq (wp_deferP hrel1 (b4 := b4) (b5 := b5) rfl rfl λT6 a6 hd6 hrel6 hT6 => ?_)
  have hb := pzb_body ⟨x, b4, b5⟩ F hc hr
  unfold BodyD at hb
  have hE := E_cut (V := (pzbCut ⟨x, b4, b5⟩ F 2).get rfl) (by kernel_rfl) rfl (show E _ _ _ (.seq .skip (cTl 2 pzc)) _ _ _ _ from hb) () T6.at trivial
  refine E_sound hm _ _ hE (over_rel hrel6 ⟨(hT6 0 (by decide)).trans rfl, (hT6 1 (by decide)).trans rfl, (hT6 4 (by decide)).trans rfl, (hT6 5 (by decide)).trans rfl, fo_tv⟩) (hd6.trans (by rw [hd1])) (hs1.pick [0, 1, 2, 3] rfl rfl) (prz_end ?_)
  intro w' J' y hle hs' henv
  exact ⟨y, J', fo_tv, rfl, Imm.le_trans hle1 hle, hs', henv1.trans henv⟩⟩
end
end Go.Proofs.YtjdabjmjldiodaaGreatDoor
