/- A part of the proof that pennantlaw23.BasicBack answers true at every input. -/
import Derived.Test.YtjdabjmjldiodaaGreatDoorPBaf
set_option linter.all false
namespace Go.Proofs.YtjdabjmjldiodaaGreatDoor
set_option maxRecDepth 100000
open Go.Value (int slice string bool pointer agg tuple func float iface nilIface)
open Go.IntKind (i64 u8 u64 i32 u32 u16 i8 i16)
open Go.FloatKind (f64)
open Go.Ending (returned panicked)
section
open Go
set_option maxHeartbeats 1000000
theorem FnOk.pk2 {P : Program} {f : FuncId} {C D : Con} {Y : Type} (h : FnOk P f C) (R : D.X → Y → Prop) (B : D.X → Y → List Atom) (hpre : ∀ x, D.pre x = [exA (R x) (B x)]) (g : D.X → Y → C.X) (E : D.X → Y → List Atom)
    (ha : ∀ x y, D.cond x → R x y → C.args (g x y) = D.args x) (hp : ∀ x y, B x y = C.pre (g x y) ++ E x y) (hc : ∀ x y, D.cond x → R x y → C.cond (g x y)) (hr : ∀ x y F, D.cond x → R x y → D.rdc x F → C.rdc (g x y) F)
    (hv : ∀ x y z, D.cond x → R x y → C.rel (g x y) z → ∃ u, D.rel x u ∧ C.val (g x y) z = D.val x u ∧ PostLe (C.post (g x y) z ++ E x y) (D.post x u)) : FnOk P f D := ⟨λx F I w hcx hrx hs => by
  rw [hpre] at hs
  obtain ⟨y, hy, hs⟩ := ex_open hs
  rw [hp, fo_aa] at hs
  have hsub : Sub F (bagA (E x y ++ [F])) := sub_bag (E x y).length (by simp)
  have := h.h (g x y) (bagA (E x y ++ [F])) I w (hc x y hcx hy) (C.rmono _ _ _ hsub (hr x y F hcx hy hrx)) hs.bagTail
  rw [ha x y hcx hy] at this
  refine this.mono λe w' he => ?_
  obtain ⟨z, J, h1, h2, h3, h4, h5⟩ := he
  obtain ⟨u, k1, k2, k3⟩ := hv x y z hcx hy h1
  have h6 := h4.unbagTail
  rw [← fo_aa] at h6
  obtain ⟨J', l, hs'⟩ := k3 J w' F h6
  exact ⟨u, J', k1, h2.trans k2, Imm.le_trans h3 l, hs', h5⟩⟩
structure JsX where
  j : JwX
  t : ByteArray
  s : ByteArray
abbrev ws4P : Con where
  X := JsX
  Y := Unit
  args x := [.pointer (some ⟨x.j.b, 1, none⟩), .string x.s]
  pre x := [jwA x.j x.t]
  cond x := x.t.size + x.s.size ≤ 140737488355328
  rdc _ _ := True
  rel _ _ := True
  val x _ := .returned (.tuple #[.int .i64 x.s.size, .nilIface])
  post x _ := [jwA x.j (x.t ++ x.s)]
theorem ws4p_ok : fo_k 113 ws4P :=
  ws4_ok.pk2 (D := ws4P) (λx => x.j.R x.t) (λx => x.j.B) (λ_ => rfl) (λx y => ⟨x.j.b, .pointer (some x.j.h), y.p, y.r, .slice x.j.a x.j.n x.j.c, x.t, x.s⟩) (λ_ _ => []) (λ_ _ _ _ => rfl) (λ_ _ => rfl)
    (λx y hc hy => ⟨hy.1, hy.2, by have := hy.2.size; have hc : x.t.size + x.s.size ≤ 140737488355328 := hc; dsimp only; omega⟩) (λ_ _ _ _ _ _ => fo_tv)
    λx y z _ hy hz => ⟨(), fo_tv, rfl, PostLe.ex (R := x.j.R (x.t ++ x.s)) (B := x.j.B) (y := ⟨some ⟨x.j.b, 1, none⟩, z⟩) ⟨.inr rfl, hz⟩⟩
abbrev ln4P : Con where
  X := JsX
  Y := Unit
  args x := [.pointer (some ⟨x.j.b, 1, none⟩)]
  pre x := [jwA x.j x.t]
  cond _ := True
  rdc _ _ := True
  rel _ _ := True
  val x _ := .returned (.int .i64 x.t.size)
  post x _ := [jwA x.j x.t]
theorem ln4p_ok : fo_k 115 ln4P :=
  ln4_ok.pk2 (D := ln4P) (λx => x.j.R x.t) (λx => x.j.B) (λ_ => rfl) (λx y => ⟨x.j.b, .pointer (some x.j.h), y.p, y.r, .slice x.j.a x.j.n x.j.c, x.t, x.s⟩) (λ_ _ => []) (λ_ _ _ _ => rfl) (λ_ _ => rfl)
    (λx y hc hy => hy.2) (λ_ _ _ _ _ _ => fo_tv)
    λx y z _ hy hz => ⟨(), fo_tv, rfl, PostLe.ex (R := x.j.R x.t) (B := x.j.B) (y := y) hy⟩
def eqV (e : Int) : Value := .iface 32 (.int .i64 e)
abbrev sayC : Con where
  X := JsX
  Y := Unit ⊕ Unit
  args x := [.pointer (some ⟨x.j.b, 0, none⟩), .string x.s]
  pre x := [jwA x.j x.t]
  cond x := x.t.size ≤ 1048576 ∧ x.s.size ≤ 1048576
  rdc _ F := Utf F
  rel x y := match y with
    | .inl _ => (x.t ++ wideV x.s).size ≤ 16384
    | .inr _ => 16384 < (x.t ++ wideV x.s).size
  val _ y := match y with
    | .inl _ => .returned (.tuple #[])
    | .inr _ => .panicked [⟨eqV 112, false, false⟩]
  post x _ := [jwA x.j (x.t ++ wideV x.s)]
  rmono _ _ _ hs h := h.sub hs
  sum := some (sumS Unit Unit)
def T55 := fo_C2 114 wC q238 (λ_ => Utf)
abbrev q314 (x : JsX) (F : Atom) := [(0, fo_pr (Ex.rest (x.j.R x.t) x.j.B)), (1, F)]
def T56 := fo_C3 113 ws4P (λw0 => w0.t.size + w0.s.size ≤ 140737488355328)
abbrev q36 := panicked [{ v := fo_vf 32 (fo_vi 112), recovered := false }]
theorem say_vc (x : JsX) (F : Atom) (hc : sayC.cond x) (hr : sayC.rdc x F) :
 true = true ∧ T55 [fo_vs x.s] (fo_aR (q314 x F) []) (λf e => T56 [fo_vp (some ⟨x.j.b, 1, none⟩), fo_vs (wideV f.s)] [fo_pr (Ex.rest (x.j.R x.t) x.j.B)] (λd c => fo_C3 115 ln4P (λ_ => True) [fo_vp (some ⟨x.j.b, 1, none⟩)] [fo_pr (Ex.rest (d.j.R (d.t ++ d.s)) d.j.B)] (λb a => fo_Bd ((b.t.size : Int) > 16384) (Done sayC x F q36 (q314 b F)) (Done sayC x F q74 (q314 b F))))) := by
  delta q238 T55 q314 T56 q36 q74 fo_aR fo_C2 fo_C3 fo_vi fo_vs fo_vp fo_vf fo_pr fo_Bd fo_rt
  obtain ⟨j, t, s⟩ := x
  obtain ⟨h1, h2⟩ := hc
  have hr : Utf F := hr
  dsimp only at h1 h2 ⊢
  have hw := wideV_size s
  refine ⟨rfl, wp_ok, rfl, ⟨s⟩, rfl, rfl, h2, Utf.rest (j := 1) (by simp) hr, λ_ _ => ⟨ws4p_ok, rfl, ⟨j, t, wideV s⟩, rfl, rfl, by dsimp only; omega, fo_tv, λ_ _ => ⟨ln4p_ok, rfl, ⟨j, t ++ wideV s, ⟨#[]⟩⟩, rfl, rfl, fo_tv, fo_tv, λ_ _ => br_decide (λh => ?_) (λh => ?_)⟩⟩⟩
  · exact ⟨.inr (), by show 16384 < (t ++ wideV s).size; dsimp only at h; omega, rfl, Ent.pick [0, 1] rfl rfl⟩
  · exact ⟨.inl (), by show (t ++ wideV s).size ≤ 16384; dsimp only at h; omega, rfl, Ent.pick [0, 1] rfl rfl⟩
theorem say_ok : fo_k 71 sayC := fo 16 Tryz.func71 (λ_ _ => [(0, 4, .c wC [] []), (0, 5, .c ws4P [0] [0]), (1, 3, .c ln4P [0] [0]), (2, 1, .w [])]) [] fo_i fo_i fo_o [] say_vc
end
section
open Go
set_option maxHeartbeats 1000000
structure CuX where
  w : ByteArray
  i : Nat
abbrev cuC : Con where
  X := CuX
  Y := Unit
  args x := [.string x.w, .int .i64 x.i, .int .i64 ((x.i : Int) + 1)]
  pre _ := []
  cond x := x.w.size ≤ 1048576 ∧ x.i < x.w.size / 2
  rdc _ _ := True
  rel _ _ := True
  val x _ := .returned (.string (x.w.extract (2 * x.i) (2 * x.i + 2)))
  post _ _ := []
theorem cu_vc (x : CuX) (F : Atom) (hc : cuC.cond x) (hr : cuC.rdc x F) :
 T36 [fo_vs x.w] (λd c => T36 [fo_vs x.w] (λb a => fo_Bd ((if (↑(d.a.size / 2) : Int) < if 0 > (x.i : Int) then (0 : Int) else (x.i : Int) then (↑(d.a.size / 2) : Int) else if 0 > (x.i : Int) then (0 : Int) else (x.i : Int)) ≥ if (↑(b.a.size / 2) : Int) < if 0 > (x.i : Int) + 1 then (0 : Int) else (x.i : Int) + 1 then (↑(b.a.size / 2) : Int) else if 0 > (x.i : Int) + 1 then (0 : Int) else (x.i : Int) + 1) (Done cuC x F (fo_rt (fo_vs ⟨#[]⟩)) [(0, F)]) ((((-9223372036854775808 : Int) ≤ 2 * if (↑(d.a.size / 2) : Int) < if 0 > (x.i : Int) then (0 : Int) else (x.i : Int) then (↑(d.a.size / 2) : Int) else if 0 > (x.i : Int) then (0 : Int) else (x.i : Int)) ∧ (2 * if (↑(d.a.size / 2) : Int) < if 0 > (x.i : Int) then (0 : Int) else (x.i : Int) then (↑(d.a.size / 2) : Int) else if 0 > (x.i : Int) then (0 : Int) else (x.i : Int)) ≤ 9223372036854775807) ∧ (((-9223372036854775808 : Int) ≤ 2 * if (↑(b.a.size / 2) : Int) < if 0 > (x.i : Int) + 1 then (0 : Int) else (x.i : Int) + 1 then (↑(b.a.size / 2) : Int) else if 0 > (x.i : Int) + 1 then (0 : Int) else (x.i : Int) + 1) ∧ (2 * if (↑(b.a.size / 2) : Int) < if 0 > (x.i : Int) + 1 then (0 : Int) else (x.i : Int) + 1 then (↑(b.a.size / 2) : Int) else if 0 > (x.i : Int) + 1 then (0 : Int) else (x.i : Int) + 1) ≤ 9223372036854775807) ∧ (((0 : Int) ≤ 2 * if (↑(d.a.size / 2) : Int) < if 0 > (x.i : Int) then (0 : Int) else (x.i : Int) then (↑(d.a.size / 2) : Int) else if 0 > (x.i : Int) then (0 : Int) else (x.i : Int)) ∧ ((2 * if (↑(d.a.size / 2) : Int) < if 0 > (x.i : Int) then (0 : Int) else (x.i : Int) then (↑(d.a.size / 2) : Int) else if 0 > (x.i : Int) then (0 : Int) else (x.i : Int)) ≤ 2 * if (↑(b.a.size / 2) : Int) < if 0 > (x.i : Int) + 1 then (0 : Int) else (x.i : Int) + 1 then (↑(b.a.size / 2) : Int) else if 0 > (x.i : Int) + 1 then (0 : Int) else (x.i : Int) + 1) ∧ (2 * if (↑(b.a.size / 2) : Int) < if 0 > (x.i : Int) + 1 then (0 : Int) else (x.i : Int) + 1 then (↑(b.a.size / 2) : Int) else if 0 > (x.i : Int) + 1 then (0 : Int) else (x.i : Int) + 1) ≤ (x.w.size : Int)) ∧ Done cuC x F (fo_rt (fo_vs (x.w.extract (2 * if (↑(d.a.size / 2) : Int) < if 0 > (x.i : Int) then (0 : Int) else (x.i : Int) then (↑(d.a.size / 2) : Int) else if 0 > (x.i : Int) then (0 : Int) else (x.i : Int)).toNat (2 * if (↑(b.a.size / 2) : Int) < if 0 > (x.i : Int) + 1 then (0 : Int) else (x.i : Int) + 1 then (↑(b.a.size / 2) : Int) else if 0 > (x.i : Int) + 1 then (0 : Int) else (x.i : Int) + 1).toNat))) [(0, F)]))) := by
  delta T36 fo_C1 fo_vs fo_Bd fo_rt
  obtain ⟨w, i⟩ := x
  obtain ⟨hw, hi⟩ := hc
  dsimp only at hw hi ⊢
  refine ⟨len_ok, rfl, ⟨w, w⟩, rfl, rfl, by dsimp only; omega, fo_tv, λ_ _ => ⟨len_ok, rfl, ⟨w, w⟩, rfl, rfl, by dsimp only; omega, fo_tv, λ_ _ => ?_⟩⟩
  dsimp only
  rw [if_neg (show ¬ 0 > (i : Int) by omega), if_neg (show ¬ 0 > (i : Int) + 1 by omega), if_neg (show ¬ ((w.size / 2 : Nat) : Int) < (i : Int) by omega), if_neg (show ¬ ((w.size / 2 : Nat) : Int) < (i : Int) + 1 by omega)]
  refine br_decide (λh => absurd h (by omega)) (λ_ => ⟨⟨by omega, by omega⟩, ⟨by omega, by omega⟩, ⟨by omega, by omega, by omega⟩, (), fo_tv, ?_, Ent.pick [0] rfl rfl⟩)
  rw [show (2 * (i : Int)).toNat = 2 * i by omega, show (2 * ((i : Int) + 1)).toNat = 2 * i + 2 by omega] <;> rfl
theorem cu_ok : fo_k 122 cuC := fo 26 Tryz.func122 (λ_ _ => [(1, 3, .c lenC [] []), (1, 8, .c lenC [] [])]) [] fo_i fo_i fo_o [] cu_vc
theorem ba_assoc (a b c : ByteArray) : a ++ b ++ c = a ++ (b ++ c) := ByteArray.append_assoc
theorem quF_app (t w : ByteArray) : ∀ (f i : Nat) (o : ByteArray), t ++ quF w f i o = quF w f i (t ++ o) := by
  intro f
  induction f with
  | zero => intro i o; rfl
  | succ f ih =>
    intro i o
    rw [quF, quF]
    cases decide (i < w.size / 2) with
    | true => rw [fo_ct, fo_ct, ih, ba_assoc]
    | false => rfl
theorem quF_size (w : ByteArray) : ∀ (f i : Nat) (o : ByteArray), o.size ≤ (quF w f i o).size := by
  intro f
  induction f with
  | zero => intro i o; exact fo_nr _
  | succ f ih =>
    intro i o
    rw [quF]
    cases decide (i < w.size / 2) with
    | true =>
      rw [fo_ct]
      refine fo_lt ?_ (ih (i + 1) _)
      rw [fo_sa]
      omega
    | false => exact fo_nr _
theorem quV_app (t w : ByteArray) : t ++ quV w = quF w (w.size / 2 + 1) 0 (t ++ btL [0, 34]) ++ btL [0, 34] := by
  unfold quV
  rw [← ba_assoc, quF_app]
def mkT : ByteArray := ⟨#[34, 92, 98, 102, 110, 114, 116]⟩
def quK (u : Nat) : Int := bif decide (u < 128) then Lib.indexByte (⟨#[34, 92, 8, 12, 10, 13, 9]⟩ : ByteArray).data.toList (UInt8.ofNat u) else -1
theorem ba_list {a b : ByteArray} (h : a.data.toList = b.data.toList) : a = b := ByteArray.ext (Array.toList_inj.1 h)
theorem esc1 {u : Nat} (h : quK u ≥ 0) : quK u + 1 ≤ 7 ∧ wideV (⟨#[92]⟩ ++ mkT.extract (quK u).toNat (quK u + 1).toNat) = btL (esc u) ∧ (mkT.extract (quK u).toNat (quK u + 1).toNat).size ≤ 7 := by
  have key : ∀ d : Fin 128, quK d.val ≥ 0 → quK d.val + 1 ≤ 7 ∧ (wideV (⟨#[92]⟩ ++ mkT.extract (quK d.val).toNat (quK d.val + 1).toNat)).data.toList = (btL (esc d.val)).data.toList := by decide +kernel
  have hu : u < 128 := by
    by_cases g : u < 128
    · exact g
    · unfold quK at h
      rw [fo_df g, fo_cf] at h
      exact absurd h (by decide)
  obtain ⟨k1, k2⟩ := key ⟨u, hu⟩ h
  refine ⟨k1, ba_list k2, ?_⟩
  rw [fo_se]
  have : mkT.size = 7 := rfl
  omega
def hxT : ByteArray := ⟨#[48, 49, 50, 51, 52, 53, 54, 55, 56, 57, 97, 98, 99, 100, 101, 102]⟩
def hi4 (u : Nat) : Int := (u : Int).fdiv (2 ^ min (Int.toNat 4) i64.bits)
def lo4 (u : Nat) : Int := i64.wrap (↑(BitVec.ofInt i64.bits (u : Int) &&& BitVec.ofInt i64.bits 15).toNat : Int)
theorem esc2 {u : Nat} (hu : u < 32) (h : ¬ quK u ≥ 0) : (0 ≤ hi4 u ∧ hi4 u + 1 ≤ 2) ∧ (0 ≤ lo4 u ∧ lo4 u + 1 ≤ 16) ∧ wideV (⟨#[92, 117, 48, 48]⟩ ++ (⟨#[48, 49]⟩ : ByteArray).extract (hi4 u).toNat (hi4 u + 1).toNat ++ hxT.extract (lo4 u).toNat (lo4 u + 1).toNat) = btL (esc u) := by
  have key : ∀ d : Fin 32, ¬ quK d.val ≥ 0 → (0 ≤ hi4 d.val ∧ hi4 d.val + 1 ≤ 2) ∧ (0 ≤ lo4 d.val ∧ lo4 d.val + 1 ≤ 16) ∧ (wideV (⟨#[92, 117, 48, 48]⟩ ++ (⟨#[48, 49]⟩ : ByteArray).extract (hi4 d.val).toNat (hi4 d.val + 1).toNat ++ hxT.extract (lo4 d.val).toNat (lo4 d.val + 1).toNat)).data.toList = (btL (esc d.val)).data.toList := by decide +kernel
  obtain ⟨k1, k2, k3⟩ := key ⟨u, hu⟩ h
  exact ⟨k1, k2, ba_list k3⟩
theorem esc3 {u : Nat} (hu : ¬ u < 32) (h : ¬ quK u ≥ 0) : esc u = [u / 256, u % 256] := by
  have key : ∀ d : Fin 128, ¬ d.val < 32 → ¬ quK d.val ≥ 0 → esc d.val = [d.val / 256, d.val % 256] := by decide +kernel
  by_cases g : u < 128
  · exact key ⟨u, g⟩ hu h
  · unfold esc
    have e : ∀ k : Nat, k < 128 → (u == k) = false := λk hk => fo_bf.2 (by omega)
    rw [e 34 (by decide), e 92 (by decide), e 8 (by decide), e 12 (by decide), e 10 (by decide), e 13 (by decide), e 9 (by decide), fo_df hu] <;> rfl
theorem ext_btL (w : ByteArray) (a n : Nat) (h : a + n ≤ w.size) : w.extract a (a + n) = btL ((List.range n).map λk => bt w (a + k)) := by
  apply ba_list
  show (w.extract a (a + n)).data.toList = ((List.range n).map λk => bt w (a + k)).map λm => UInt8.ofNat m
  apply List.ext_getElem?
  intro j
  rw [ByteArray.data_extract, Array.toList_extract, fo_gm, fo_gm]
  have hsz : w.data.toList.length = w.size := by simp
  show ((w.data.toList.drop a).take (a + n - a))[j]? = _
  rw [List.getElem?_take]
  by_cases hj : j < n
  · rw [if_pos (by omega), List.getElem?_drop, bt_toList w _ (by omega), List.getElem?_range hj] <;> rfl
  · rw [if_neg (by omega), fo_gn (by simp; omega)] <;> rfl
theorem unit_ext {w : ByteArray} {i : Nat} (h : i < w.size / 2) : w.extract (2 * i) (2 * i + 2) = btL [unitN w i / 256, unitN w i % 256] := by
  rw [ext_btL w (2 * i) 2 (by omega)]
  have b1 := bt_lt w (2 * i + 1)
  unfold unitN
  rw [fo_dt h, fo_ct]
  have e1 : (bt w (2 * i) * 256 + bt w (2 * i + 1)) / 256 = bt w (2 * i) := by omega
  have e2 : (bt w (2 * i) * 256 + bt w (2 * i + 1)) % 256 = bt w (2 * i + 1) := by omega
  rw [e1, e2] <;> rfl
theorem wide_nil : wideV ⟨#[]⟩ = ⟨#[]⟩ := rfl
theorem app_nil (a : ByteArray) : a ++ (⟨#[]⟩ : ByteArray) = a := ByteArray.append_empty
theorem wide_q : wideV ⟨#[34]⟩ = btL [0, 34] := ba_list (by decide +kernel)
structure QuX where
  j : JwX
  t : ByteArray
  w : ByteArray
abbrev quC : Con where
  X := QuX
  Y := Unit ⊕ Unit
  args x := [.pointer (some ⟨x.j.b, 0, none⟩), .string x.w]
  pre x := [jwA x.j x.t]
  cond x := x.t.size ≤ 1048576 ∧ x.w.size ≤ 1048576
  rdc _ F := Utf F
  rel x y := match y with
    | .inl _ => (x.t ++ quV x.w).size ≤ 16384
    | .inr _ => 16384 < (x.t ++ quV x.w).size
  val _ y := match y with
    | .inl _ => .returned (.tuple #[])
    | .inr _ => .panicked [⟨eqV 112, false, false⟩]
  post x y := match y with
    | .inl _ => [jwA x.j (x.t ++ quV x.w)]
    | .inr _ => []
  rmono _ _ _ hs h := h.sub hs
  sum := some (sumS Unit Unit)
structure QuS where
  i : Nat
  o : ByteArray
  f : Nat
structure QuS.ok (d : QuS) (t w : ByteArray) : Prop where
  hi : d.i ≤ w.size / 2
  hf : w.size / 2 < d.i + d.f
  ho : d.o.size ≤ 16384
  he : t ++ quV w = quF w d.f d.i d.o ++ btL [0, 34]
def quInv (x : QuX) (F : Atom) : Nat → Option Inv := fun
  | 0 => some { X := QuS, P := λd => d.ok x.t x.w, mu := λd => x.w.size / 2 - d.i, lv := λd => [(0, .pointer (some ⟨x.j.b, 0, none⟩)), (1, .string x.w), (11, .int .i64 (x.w.size / 2 : Nat)), (12, .int .i64 d.i)], st := λd => [jwA x.j d.o, F] }
  | _ => none
structure Qu2 where
  d : QuS
  k : Int
def quG (x : QuX) : (T : Type) × (Qu2 → T) := ⟨QuS, λe => e.d⟩
def quCut (x : QuX) (F : Atom) : Nat → Option Inv := fun
  | 10 => some { X := Qu2, P := λe => e.d.ok x.t x.w ∧ e.d.i < x.w.size / 2 ∧ e.k = quK (unitN x.w e.d.i), mu := λ_ => 0, lv := λe => [(0, .pointer (some ⟨x.j.b, 0, none⟩)), (1, .string x.w), (4, .int .i64 e.d.i), (5, .int .i64 (unitN x.w e.d.i)), (7, .int .i64 e.k), (11, .int .i64 (x.w.size / 2 : Nat)), (12, .int .i64 e.d.i)], st := λe => [jwA x.j e.d.o, F], gh := some (quG x) }
  | _ => none
def T57 (aa : List Value) (pp : List Atom) (rr : Atom) (k0 : JsX → Unit → Prop) (k1 : JsX → Unit → Prop) := fo_k 71 sayC ∧ true = true ∧ ∃ (z : JsX), aa = [fo_vp (some ⟨z.j.b, 0, none⟩), fo_vs z.s] ∧ pp = [fo_pr (Ex.rest (z.j.R z.t) z.j.B)] ∧ (z.t.size ≤ 1048576 ∧ z.s.size ≤ 1048576) ∧ Utf rr ∧ (∀ (u0 : Unit), (z.t ++ wideV z.s).size.le 16384 → k0 z u0) ∧ ∀ (u1 : Unit), Nat.le 16385 (z.t ++ wideV z.s).size → k1 z u1
abbrev q127 (e0 : QuX) : Option Addr := some ⟨e0.j.b, 0, none⟩
abbrev q53 (r : JsX) (F : Atom) := [(0, fo_pr (Ex.rest (r.j.R (r.t ++ wideV r.s)) r.j.B)), (1, F)]
abbrev q208 (e0 : QuX) (z : QuS) (e1 : Atom) := [(0, fo_pr (Ex.rest (e0.j.R z.o) e0.j.B)), (1, e1)]
def q335 (z : Qu2) (e0 : QuX) (e1 : QuS) := (z.d.ok e0.t e0.w ∧ z.d.i < e0.w.size.div 2 ∧ z.k = quK (unitN e0.w z.d.i)) ∧ (quG e0).snd z = e1
def T58 (e0 : QuX) (e1 : QuS) (e2 : Atom) (v0 v1 v2 v3 : Value) (ss : St) := ∃ (z : Qu2), q335 z e0 e1 ∧ (fo_vp (q127 e0) = fo_vp (q127 e0) ∧ fo_vs e0.w = fo_vs e0.w ∧ v0 = fo_vi ↑z.d.i ∧ v1 = fo_vi (↑(unitN e0.w z.d.i) : Int) ∧ v2 = fo_vi z.k ∧ fo_vi (↑(e0.w.size / 2) : Int) = fo_vi (↑(e0.w.size / 2) : Int) ∧ v3 = fo_vi ↑z.d.i ∧ True) ∧ Ent ss [(0, fo_pr (Ex.rest (e0.j.R z.d.o) e0.j.B)), (1, e2)]
abbrev q258 : ByteArray := ByteArray.mk #[34, 92, 98, 102, 110, 114, 116]
def T59 (e0 : QuX) (e1 : Atom) (v0 : Value) (ss : St) (mm : Nat) := ∃ (z : QuS), z.ok e0.t e0.w ∧ (fo_vp (q127 e0) = fo_vp (q127 e0) ∧ fo_vs e0.w = fo_vs e0.w ∧ fo_vi (↑(e0.w.size / 2) : Int) = fo_vi (↑(e0.w.size / 2) : Int) ∧ v0 = fo_vi ↑z.i ∧ True) ∧ Ent ss (q208 e0 z e1) ∧ e0.w.size.div 2 - z.i < mm
abbrev q166 (i : Qu2) (x : QuX) (F : Atom) (n : QuS) : JsX → Unit → Prop := λc b => fo_rI ((i.d.i : Int) + 1) ∧ T59 x F (fo_vi ((i.d.i : Int) + 1)) (q53 c F) (x.w.size.div 2 - n.i)
abbrev q310 : ByteArray := ByteArray.mk #[48, 49]
abbrev q181 : ByteArray := ByteArray.mk #[48, 49, 50, 51, 52, 53, 54, 55, 56, 57, 97, 98, 99, 100, 101, 102]
theorem qu_vc (x : QuX) (F : Atom) (hc : quC.cond x) (hr : quC.rdc x F) :
 T57 [fo_vp (q127 x), fo_vs ⟨#[34]⟩] [fo_pr (Ex.rest (x.j.R x.t) x.j.B)] (fo_aR [(0, fo_pr (Ex.rest (x.j.R x.t) x.j.B)), (1, F)] [0]) (λr q => T36 [fo_vs x.w] (λp o => (∃(a : QuS), a.ok x.t x.w ∧ (fo_vp (q127 x) = fo_vp (q127 x) ∧ fo_vs x.w = fo_vs x.w ∧ fo_vi (↑(p.a.size / 2) : Int) = fo_vi (↑(x.w.size / 2) : Int) ∧ fo_vi 0 = fo_vi ↑a.i ∧ True) ∧ Ent (q53 r F) (q208 x a F)) ∧ fo_vA λ(n : QuS) _ => n.ok x.t x.w → fo_Bd ((n.i : Int) < (↑(x.w.size / 2) : Int)) (T37 [fo_vs x.w, fo_vi ↑n.i] (λl k => ∃(j : QuS), fo_Bd ((↑(unitN l.s l.i) : Int) < 128) ((0 ≤ (↑(unitN l.s l.i) : Int) ∧ (↑(unitN l.s l.i) : Int) ≤ 255) ∧ T14 [fo_vs ⟨#[34, 92, 8, 12, 10, 13, 9]⟩, fo_vc (↑(unitN l.s l.i) : Int)] (λc b => T58 x j F (fo_vi ↑n.i) (q190 l) (q104 c) (fo_vi ↑n.i) (q208 x n F))) (T58 x j F (fo_vi ↑n.i) (q190 l) (fo_vi (-1)) (fo_vi ↑n.i) (q208 x n F)) ∧ fo_vA λ(i : Qu2) _ => q335 i x j → fo_Bd (i.k ≥ 0) (fo_rI (i.k + 1) ∧ (0 ≤ i.k ∧ i.k ≤ i.k + 1 ∧ i.k + 1 ≤ (↑q258.size : Int)) ∧ 1 + (q258.extract i.k.toNat (i.k + 1).toNat).size ≤ 9223372036854775807 ∧ T57 [fo_vp (q127 x), fo_vs ((ByteArray.mk #[92]) ++ q258.extract i.k.toNat (i.k + 1).toNat)] [fo_pr (Ex.rest (x.j.R i.d.o) x.j.B)] (fo_aR [(0, fo_pr (Ex.rest (x.j.R i.d.o) x.j.B)), (1, F)] [0]) (q166 i x F n) (λc a => Done quC x F q36 (q53 c F))) (fo_Bd ((↑(unitN x.w i.d.i) : Int) < 32) (true = true ∧ fo_rI ((↑(unitN x.w i.d.i) : Int).fdiv ((2 : Int) ^ min (Int.toNat (4 : Int)) i64.bits) + 1) ∧ (0 ≤ (↑(unitN x.w i.d.i) : Int).fdiv ((2 : Int) ^ min (Int.toNat (4 : Int)) i64.bits) ∧ (↑(unitN x.w i.d.i) : Int).fdiv ((2 : Int) ^ min (Int.toNat (4 : Int)) i64.bits) ≤ (↑(unitN x.w i.d.i) : Int).fdiv ((2 : Int) ^ min (Int.toNat (4 : Int)) i64.bits) + 1 ∧ (↑(unitN x.w i.d.i) : Int).fdiv ((2 : Int) ^ min (Int.toNat (4 : Int)) i64.bits) + 1 ≤ (↑q310.size : Int)) ∧ 4 + (q310.extract ((↑(unitN x.w i.d.i) : Int).fdiv ((2 : Int) ^ min (Int.toNat (4 : Int)) i64.bits)).toNat ((↑(unitN x.w i.d.i) : Int).fdiv ((2 : Int) ^ min (Int.toNat (4 : Int)) i64.bits) + 1).toNat).size ≤ 9223372036854775807 ∧ fo_rI (fo_wi (↑(fo_bi (↑(unitN x.w i.d.i) : Int) &&& fo_bi (15 : Int)).toNat : Int) + 1) ∧ (0 ≤ fo_wi (↑(fo_bi (↑(unitN x.w i.d.i) : Int) &&& fo_bi (15 : Int)).toNat : Int) ∧ fo_wi (↑(fo_bi (↑(unitN x.w i.d.i) : Int) &&& fo_bi (15 : Int)).toNat : Int) ≤ fo_wi (↑(fo_bi (↑(unitN x.w i.d.i) : Int) &&& fo_bi (15 : Int)).toNat : Int) + 1 ∧ fo_wi (↑(fo_bi (↑(unitN x.w i.d.i) : Int) &&& fo_bi (15 : Int)).toNat : Int) + 1 ≤ (↑q181.size : Int)) ∧ ((ByteArray.mk #[92, 117, 48, 48]) ++ q310.extract ((↑(unitN x.w i.d.i) : Int).fdiv ((2 : Int) ^ min (Int.toNat (4 : Int)) i64.bits)).toNat ((↑(unitN x.w i.d.i) : Int).fdiv ((2 : Int) ^ min (Int.toNat (4 : Int)) i64.bits) + 1).toNat).size + (q181.extract (fo_wi (↑(fo_bi (↑(unitN x.w i.d.i) : Int) &&& fo_bi (15 : Int)).toNat : Int)).toNat (fo_wi (↑(fo_bi (↑(unitN x.w i.d.i) : Int) &&& fo_bi (15 : Int)).toNat : Int) + 1).toNat).size ≤ 9223372036854775807 ∧ T57 [fo_vp (q127 x), fo_vs ((ByteArray.mk #[92, 117, 48, 48]) ++ q310.extract ((↑(unitN x.w i.d.i) : Int).fdiv ((2 : Int) ^ min (Int.toNat (4 : Int)) i64.bits)).toNat ((↑(unitN x.w i.d.i) : Int).fdiv ((2 : Int) ^ min (Int.toNat (4 : Int)) i64.bits) + 1).toNat ++ q181.extract (fo_wi (↑(fo_bi (↑(unitN x.w i.d.i) : Int) &&& fo_bi (15 : Int)).toNat : Int)).toNat (fo_wi (↑(fo_bi (↑(unitN x.w i.d.i) : Int) &&& fo_bi (15 : Int)).toNat : Int) + 1).toNat)] [fo_pr (Ex.rest (x.j.R i.d.o) x.j.B)] (fo_aR [(0, fo_pr (Ex.rest (x.j.R i.d.o) x.j.B)), (1, F)] [0]) (q166 i x F n) (λc b => ∀(a : Tm), Done quC x F q36 (q53 c F))) (true = true ∧ fo_rI ((i.d.i : Int) + 1) ∧ fo_C1 122 cuC (λg => g.w.size ≤ 1048576 ∧ g.i < g.w.size.div 2) [fo_vs x.w, fo_vi ↑i.d.i, fo_vi ((i.d.i : Int) + 1)] (λg f => T56 [fo_vp (some ⟨x.j.b, 1, none⟩), fo_vs (g.w.extract (2 * g.i) (2 * g.i + 2))] [fo_pr (Ex.rest (x.j.R i.d.o) x.j.B)] (λe d => T57 [fo_vp (q127 x), fo_vs ⟨#[]⟩] [fo_pr (Ex.rest (e.j.R (e.t ++ e.s)) e.j.B)] (fo_aR [(0, fo_pr (Ex.rest (e.j.R (e.t ++ e.s)) e.j.B)), (1, F)] [0]) (q166 i x F n) (λc a => Done quC x F q36 (q53 c F)))))))) (T57 [fo_vp (q127 x), fo_vs ⟨#[34]⟩] [fo_pr (Ex.rest (x.j.R n.o) x.j.B)] (fo_aR (q208 x n F) [0]) (λb a => Done quC x F q74 (q53 b F)) (λb a => Done quC x F q36 (q53 b F))))) (λr a => Done quC x F q36 (q53 r F)) := by
  delta T57 q127 T36 q53 q208 T37 T14 q335 T58 q190 q104 q258 T59 q166 q36 q310 q181 T56 q74 fo_aR fo_rI fo_C1 fo_C3 fo_vi fo_vc fo_vs fo_vp fo_vf fo_pr fo_bi fo_wi fo_Bd fo_rt fo_vA
  obtain ⟨j, t, w⟩ := x
  obtain ⟨ht, hw⟩ := hc
  have hr : Utf F := hr
  dsimp only at ht hw ⊢
  have big : ∀ (S : St), 16384 < (t ++ quV w).size → Ent S (ofL [F]) → Done quC ⟨j, t, w⟩ F (panicked [⟨eqV 112, false, false⟩]) S := λS h1 h2 => ⟨.inr (), h1, rfl, h2⟩
  have hgl : ∀ o : ByteArray, Utf (.pred (rest [(0, jwA j o), (1, F)] [0])) := λo => Utf.rest (j := 1) (by simp) hr
  refine ⟨say_ok, rfl, ⟨j, t, ⟨#[34]⟩⟩, rfl, rfl, ⟨ht, show (1 : Nat) ≤ 1048576 by omega⟩, hgl t, λ_ h => ?_, λ_ h => big _ ?_ (Ent.pick [1] rfl rfl)⟩
  rotate_left
  · have h : 16384 < (t ++ wideV ⟨#[34]⟩).size := h
    rw [wide_q] at h
    rw [quV_app, fo_sa]
    have := quF_size w (w.size / 2 + 1) 0 (t ++ btL [0, 34])
    omega
  have h : (t ++ wideV ⟨#[34]⟩).size ≤ 16384 := h
  rw [wide_q] at h
  refine ⟨len_ok, rfl, ⟨w, w⟩, rfl, rfl, by dsimp only; omega, fo_tv, λ_ _ => ⟨⟨⟨0, t ++ btL [0, 34], w.size / 2 + 1⟩, ⟨fo_zl _, by dsimp only; omega, h, quV_app t w⟩, ⟨rfl, rfl, rfl, rfl, fo_tv⟩, Ent.pick [0, 1] rfl (by rw [← wide_q] <;> rfl)⟩, ?_⟩⟩
  rintro ⟨i, o, f⟩ js ⟨h1, h2, h3, h4⟩
  dsimp only at h1 h2 h3 h4 ⊢
  obtain ⟨f', rfl⟩ : ∃ f', f = f' + 1 := ⟨f - 1, by omega⟩
  refine br_decide (λhlt => ?_) (λhge => ?_)
  · have hlt : i < w.size / 2 := by omega
    refine ⟨atu_ok, rfl, ⟨w, i⟩, rfl, rfl, ⟨by dsimp only; omega, by dsimp only; omega⟩, fo_tv, λ_ _ => ⟨⟨i, o, f' + 1⟩, br_decide (λhu => ?_) (λhu => ?_), ?_⟩⟩
    · have hu : unitN w i < 128 := by dsimp only at hu; omega
      refine ⟨⟨by omega, by dsimp only; omega⟩, ib_ok, rfl, ⟨⟨#[34, 92, 8, 12, 10, 13, 9]⟩, unitN w i⟩, rfl, rfl, by dsimp only; omega, fo_tv, λ_ _ => ⟨⟨⟨i, o, f' + 1⟩, quK (unitN w i)⟩, ⟨⟨⟨h1, h2, h3, h4⟩, hlt, rfl⟩, rfl⟩, ⟨rfl, rfl, rfl, rfl, ?_, rfl, rfl, fo_tv⟩, Ent.pick [0, 1] rfl rfl⟩⟩
      unfold quK
      rw [fo_dt hu] <;> rfl
    · have hu : ¬ unitN w i < 128 := by dsimp only at hu; omega
      refine ⟨⟨⟨i, o, f' + 1⟩, quK (unitN w i)⟩, ⟨⟨⟨h1, h2, h3, h4⟩, hlt, rfl⟩, rfl⟩, ⟨rfl, rfl, rfl, rfl, ?_, rfl, rfl, fo_tv⟩, Ent.pick [0, 1] rfl rfl⟩
      unfold quK
      rw [fo_df hu] <;> rfl
    rintro ⟨d, k⟩ js ⟨⟨_, _, hk0⟩, hd⟩
    have hd : d = ⟨i, o, f' + 1⟩ := hd
    subst hd
    dsimp only at hk0
    subst hk0
    dsimp only
    have h4 : t ++ quV w = quF w f' (i + 1) (o ++ btL (esc (unitN w i))) ++ btL [0, 34] := by
      rw [h4, quF, fo_dt hlt] <;> rfl
    have hb : 16384 < (o ++ btL (esc (unitN w i))).size → 16384 < (t ++ quV w).size := by
      intro g
      rw [h4, fo_sa]
      have := quF_size w f' (i + 1) (o ++ btL (esc (unitN w i)))
      omega
    have hn : ∀ g : (o ++ btL (esc (unitN w i))).size ≤ 16384, (⟨i + 1, o ++ btL (esc (unitN w i)), f'⟩ : QuS).ok t w := λg => ⟨hlt, by dsimp only; omega, g, h4⟩
    have hmu : w.size.div 2 - (i + 1) < w.size.div 2 - i := by show w.size / 2 - (i + 1) < w.size / 2 - i; omega
    generalize hue : unitN w i = u at *
    refine br_decide (λhk => ?_) (λhk => br_decide (λh32 => ?_) (λh32 => ?_))
    · obtain ⟨k1, k2, k3⟩ := esc1 hk
      have hsz : (mkT.extract (quK u).toNat (quK u + 1).toNat).size ≤ 7 := k3
      refine ⟨⟨by omega, by omega⟩, ⟨hk, by omega, k1⟩, by show 1 + (mkT.extract (quK u).toNat (quK u + 1).toNat).size ≤ _; omega, say_ok, rfl, ⟨j, o, ⟨#[92]⟩ ++ mkT.extract (quK u).toNat (quK u + 1).toNat⟩, rfl, rfl, ⟨by dsimp only; omega, by dsimp only; rw [fo_sa]; show 1 + _ ≤ _; omega⟩, hgl o, λ_ g => ?_, λ_ g => big _ (hb ?_) (Ent.pick [1] rfl rfl)⟩
      · have g : (o ++ wideV (⟨#[92]⟩ ++ mkT.extract (quK u).toNat (quK u + 1).toNat)).size ≤ 16384 := g
        rw [k2] at g
        exact ⟨⟨by omega, by omega⟩, ⟨i + 1, o ++ btL (esc u), f'⟩, hn g, ⟨rfl, rfl, rfl, rfl, fo_tv⟩, Ent.pick [0, 1] rfl (by dsimp only; rw [k2] <;> rfl), hmu⟩
      · have g : 16384 < (o ++ wideV (⟨#[92]⟩ ++ mkT.extract (quK u).toNat (quK u + 1).toNat)).size := g
        rw [k2] at g
        exact g
    · obtain ⟨⟨a1, a2⟩, ⟨b1, b2⟩, k2⟩ := esc2 (by omega) hk
      have s1 : ((⟨#[48, 49]⟩ : ByteArray).extract (hi4 u).toNat (hi4 u + 1).toNat).size ≤ 2 := by rw [fo_se]; have : (⟨#[48, 49]⟩ : ByteArray).size = 2 := rfl; omega
      have s2 : (hxT.extract (lo4 u).toNat (lo4 u + 1).toNat).size ≤ 16 := by rw [fo_se]; have : hxT.size = 16 := rfl; omega
      have s3 : ((⟨#[92, 117, 48, 48]⟩ : ByteArray) ++ (⟨#[48, 49]⟩ : ByteArray).extract (hi4 u).toNat (hi4 u + 1).toNat).size ≤ 6 := by rw [fo_sa]; have : (⟨#[92, 117, 48, 48]⟩ : ByteArray).size = 4 := rfl; omega
      refine ⟨rfl, ⟨by show _ ≤ hi4 u + 1; omega, by show hi4 u + 1 ≤ _; omega⟩, ⟨a1, by show hi4 u ≤ hi4 u + 1; omega, a2⟩, by show 4 + ((⟨#[48, 49]⟩ : ByteArray).extract (hi4 u).toNat (hi4 u + 1).toNat).size ≤ _; omega, ⟨by show _ ≤ lo4 u + 1; omega, by show lo4 u + 1 ≤ _; omega⟩, ⟨b1, by show lo4 u ≤ lo4 u + 1; omega, b2⟩, by show ((⟨#[92, 117, 48, 48]⟩ : ByteArray) ++ (⟨#[48, 49]⟩ : ByteArray).extract (hi4 u).toNat (hi4 u + 1).toNat).size + (hxT.extract (lo4 u).toNat (lo4 u + 1).toNat).size ≤ _; omega, say_ok, rfl, ⟨j, o, ⟨#[92, 117, 48, 48]⟩ ++ (⟨#[48, 49]⟩ : ByteArray).extract (hi4 u).toNat (hi4 u + 1).toNat ++ hxT.extract (lo4 u).toNat (lo4 u + 1).toNat⟩, rfl, rfl, ⟨by dsimp only; omega, by dsimp only; rw [fo_sa]; omega⟩, hgl o, λ_ g => ?_, λ_ g T => big _ (hb ?_) (Ent.pick [1] rfl rfl)⟩
      · have g : (o ++ wideV (⟨#[92, 117, 48, 48]⟩ ++ (⟨#[48, 49]⟩ : ByteArray).extract (hi4 u).toNat (hi4 u + 1).toNat ++ hxT.extract (lo4 u).toNat (lo4 u + 1).toNat)).size ≤ 16384 := g
        rw [k2] at g
        exact ⟨⟨by omega, by omega⟩, ⟨i + 1, o ++ btL (esc u), f'⟩, hn g, ⟨rfl, rfl, rfl, rfl, fo_tv⟩, Ent.pick [0, 1] rfl (by dsimp only; rw [k2] <;> rfl), hmu⟩
      · have g : 16384 < (o ++ wideV (⟨#[92, 117, 48, 48]⟩ ++ (⟨#[48, 49]⟩ : ByteArray).extract (hi4 u).toNat (hi4 u + 1).toNat ++ hxT.extract (lo4 u).toNat (lo4 u + 1).toNat)).size := g
        rw [k2] at g
        exact g
    · have he : esc u = [u / 256, u % 256] := esc3 (by omega) hk
      have hx : w.extract (2 * i) (2 * i + 2) = btL (esc u) := by rw [unit_ext hlt, hue, he]
      refine ⟨rfl, ⟨by omega, by omega⟩, cu_ok, rfl, ⟨w, i⟩, rfl, rfl, ⟨hw, hlt⟩, fo_tv, λ_ _ => ⟨ws4p_ok, rfl, ⟨j, o, btL (esc u)⟩, by rw [hx], rfl, by dsimp only; rw [btL_size, he]; simp only [fo_lc, List.length_nil]; omega, fo_tv, λ_ _ => ⟨say_ok, rfl, ⟨j, o ++ btL (esc u), ⟨#[]⟩⟩, rfl, rfl, ⟨by dsimp only; rw [sz_app, he]; simp only [fo_lc, List.length_nil]; omega, fo_zl _⟩, hgl _, λ_ g => ?_, λ_ g => big _ (hb ?_) (Ent.pick [1] rfl rfl)⟩⟩⟩
      · have g : (o ++ btL (esc u) ++ wideV ⟨#[]⟩).size ≤ 16384 := g
        rw [wide_nil, app_nil] at g
        exact ⟨⟨by omega, by omega⟩, ⟨i + 1, o ++ btL (esc u), f'⟩, hn g, ⟨rfl, rfl, rfl, rfl, fo_tv⟩, Ent.pick [0, 1] rfl (by dsimp only; rw [wide_nil, app_nil] <;> rfl), hmu⟩
      · have g : 16384 < (o ++ btL (esc u) ++ wideV ⟨#[]⟩).size := g
        rw [wide_nil, app_nil] at g
        exact g
  · have h4 : t ++ quV w = o ++ btL [0, 34] := by
      rw [h4, quF, fo_df (show ¬ i < w.size / 2 by omega)] <;> rfl
    refine ⟨say_ok, rfl, ⟨j, o, ⟨#[34]⟩⟩, rfl, rfl, ⟨by dsimp only; omega, show (1 : Nat) ≤ 1048576 by omega⟩, hgl o, λ_ g => ?_, λ_ g => big _ ?_ (Ent.pick [1] rfl rfl)⟩
    · have g : (o ++ wideV ⟨#[34]⟩).size ≤ 16384 := g
      rw [wide_q, ← h4] at g
      exact ⟨.inl (), g, rfl, Ent.pick [0, 1] rfl (by dsimp only [quC]; rw [h4, wide_q] <;> rfl)⟩
    · have g : 16384 < (o ++ wideV ⟨#[34]⟩).size := g
      rw [wide_q, ← h4] at g
      exact g
theorem qu_ok : fo_k 74 quC := fo 69 Tryz.func74 (λ_ _ => [(0, 1, .c sayC [0] [0]), (1, 1, .c lenC [] []), (4, 2, .c atuC [] []), (7, 2, .c ibC [] []), (11, 6, .c sayC [0] [0]), (13, 2, .q []), (13, 4, .q []), (13, 9, .q []), (13, 11, .q []), (13, 15, .c sayC [0] [0]), (8, 7, .c cuC [] []), (8, 8, .c ws4P [0] [0]), (9, 1, .c sayC [0] [0]), (15, 1, .c sayC [0] [0])]) [] quInv quCut fo_o [] qu_vc
end
section
open Go
set_option maxHeartbeats 1000000
structure HaY where
  br : Nat
  cap : Nat
  bo : Nat
  bm : Nat
  ka : Option Addr
  kn : Nat
  kc : Nat
structure HoIn (y : HaY) (b : Nat) (l : KVs) (F : Atom) : Prop where
  l0 : Look F ⟨b, 0, none⟩ (.slice (some ⟨y.br, 0, none⟩) 1 y.cap)
  l1 : Look F ⟨y.br, 0, none⟩ (.pointer (some ⟨y.bo, 0, none⟩))
  kd : Look F ⟨y.bo, 0, none⟩ (.int .i64 1)
  ks : Look F ⟨y.bo, 5, none⟩ (.slice y.ka y.kn y.kc)
  src : IsSrc 1 (ksL l) y.ka y.kn
  nil : y.ka = none → y.kn = 0 ∧ y.kc = 0
  srd : Srcd F y.ka (ksL l)
  mp : Look F ⟨y.bo, 6, none⟩ (.map (some y.bm))
  ml : MapInS F y.bm (mL l)
  it : Look F ⟨y.bo, 7, none⟩ (.slice none 0 0)
theorem HoIn.sub {y : HaY} {b : Nat} {l : KVs} {A B : Atom} (hs : Sub A B) (h : HoIn y b l A) : HoIn y b l B := ⟨h.l0.sub hs, h.l1.sub hs, h.kd.sub hs, h.ks.sub hs, h.src, h.nil, h.srd.sub hs, h.mp.sub hs, h.ml.sub hs, h.it.sub hs⟩
def pnnC : QCon where
  X := PtX
  args x := [.pointer x.a, .pointer none]
  cond _ := True
  val x := .bool (!x.a.isNone)
theorem pnn_ok {P : Program} {o : Oper} {t u : TypeId} {x y : Operand} (ho : o.op = .binOp .neq t x y u) (h : P.underlying t = some (.pointer (P.pointee t))) : QOpOk P o pnnC := by
  refine ⟨λX w ρ ha hc => ?_⟩
  obtain ⟨a⟩ := X
  simp only [ho, Op.operands, pnnC] at ha
  have ha2 : ρ x = .pointer a ∧ ρ y = .pointer none := by simpa using ha
  have hrun := run_neq_pointer_nil (P := P) w t a h
  have hg : (eqGuard .neq t x y (.pointer a) (.pointer none)).run P w = .ok () w := by cases a <;> rfl
  simp [execOp, ho, ha2.1, ha2.2, hg, hrun, pnnC]
structure HrX where
  y : HaY
  b : Nat
  l : KVs
  k : ByteArray := ⟨#[]⟩
abbrev kiC : Con where
  X := HrX
  Y := Unit
  args x := [.pointer (some ⟨x.b, 0, none⟩), .int .i64 0]
  pre _ := []
  cond _ := True
  rdc x F := HoIn x.y x.b x.l F
  rel _ _ := True
  val _ _ := .returned (.int .i64 1)
  post _ _ := []
  rmono _ _ _ hs h := h.sub hs
abbrev q242 (x : HrX) : List Value := [fo_vp (some ⟨x.b, 0, none⟩), fo_vi 0]
def T60 (aa : Atom) (ad : Addr) (k0 : Int → Prop) := ∃ (z0 : Int), Look aa ad (fo_vi z0) ∧ k0 z0
theorem ki_vc (x : HrX) (F : Atom) (hc : kiC.cond x) (hr : kiC.rdc x F) :
 T49 (q242 x) (q114 F) (λd c => QOpOk Tryz.prog (opIn Tryz.f34 2 1) pnnC ∧ ∃(b : PtX), (q178 d) = [fo_vp b.a, fo_vp none] ∧ True ∧ Br (!b.a.isNone) (T60 F ⟨d.p, 0, none⟩ (λa => Done kiC x F (fo_rt (fo_vi a)) [(0, F)])) (Done kiC x F (fo_rt (fo_vi 0)) [(0, F)])) := by
  delta q339 T49 q242 q114 q178 T60 fo_aR fo_C2 fo_vi fo_vp fo_vl fo_rt
  have hr : HoIn x.y x.b x.l F := hr
  exact ⟨at0_ok, rfl, ⟨x.b, x.y.br, 1, x.y.cap, x.y.bo⟩, rfl, rfl, Nat.one_pos, ⟨Look.rest (j := 0) (by simp) hr.l0, Look.rest (j := 0) (by simp) hr.l1⟩, λ_ _ => ⟨pnn_ok rfl rfl, ⟨some ⟨x.y.bo, 0, none⟩⟩, rfl, fo_tv, br_intro (λ_ => ⟨1, hr.kd, (), fo_tv, rfl, Ent.pick [0] rfl rfl⟩) (λh => by cases h)⟩⟩
theorem ki_ok : fo_k 34 kiC := fo 15 Tryz.func34 (λ_ _ => [(1, 2, .c at0C [] []), (2, 1, .qo pnnC), (3, 3, .q [.ex 0 (.int .i64)])]) [] fo_i fo_i fo_o [] ki_vc
abbrev itC : Con where
  X := HrX
  Y := Unit
  args x := [.pointer (some ⟨x.b, 0, none⟩), .int .i64 0]
  pre _ := []
  cond _ := True
  rdc x F := HoIn x.y x.b x.l F
  rel _ _ := True
  val _ _ := .returned (.tuple #[.slice none 0 0, .bool false])
  post _ _ := []
  rmono _ _ _ hs h := h.sub hs
theorem it_vc (x : HrX) (F : Atom) (hc : itC.cond x) (hr : itC.rdc x F) :
 T49 (q242 x) (q114 F) (λc b => T6 (opIn Tryz.f123 2 1) (q178 c) (λa => Br a.a.isNone (Done itC x F q168 [(0, F)]) (Look F ⟨c.p, 0, none⟩ (fo_vi 1) ∧ Done itC x F q168 [(0, F)]))) := by
  delta q339 T49 q242 q114 T6 q178 q168 fo_aR fo_C2 fo_vi fo_vb fo_vp fo_vl fo_rt
  have hr : HoIn x.y x.b x.l F := hr
  exact ⟨at0_ok, rfl, ⟨x.b, x.y.br, 1, x.y.cap, x.y.bo⟩, rfl, rfl, Nat.one_pos, ⟨Look.rest (j := 0) (by simp) hr.l0, Look.rest (j := 0) (by simp) hr.l1⟩, λ_ _ => ⟨pn_ok rfl rfl, ⟨some ⟨x.y.bo, 0, none⟩⟩, rfl, fo_tv, br_intro (λh => by cases h) (λ_ => ⟨hr.kd, (), fo_tv, rfl, Ent.pick [0] rfl rfl⟩)⟩⟩
theorem it_ok : fo_k 123 itC := fo 24 Tryz.func123 (λ_ _ => [(1, 2, .c at0C [] []), (2, 1, .qo pnC), (2, 6, .q [.ex 0 (.is (.int .i64 1))])]) [] fo_i fo_i fo_o [] it_vc
abbrev keC : Con where
  X := HrX
  Y := Row
  args x := [.pointer (some ⟨x.b, 0, none⟩), .int .i64 0]
  pre _ := []
  cond x := x.l.length ≤ 10000
  rdc x F := HoIn x.y x.b x.l F
  rel x y := IsRow 9 1 (ksL x.l) y ∧ y.n = x.l.length
  val _ y := .returned (.slice y.a y.n y.cap)
  post _ y := [y.A]
  rmono _ _ _ hs h := h.sub hs
def keInv (x : HrX) (F : Atom) : Nat → Option Inv := fun
  | 0 => some { X := Unit, P := λ_ => True, mu := λ_ => 0, lv := λ_ => [(5, .pointer (some ⟨x.y.bo, 0, none⟩)), (6, .slice none 0 0), (17, .int .i64 0), (18, .int .i64 0)], st := λ_ => [F] }
  | _ => none
abbrev q285 := fo_vl none 0 0
theorem ke_vc (x : HrX) (F : Atom) (hc : keC.cond x) (hr : keC.rdc x F) :
 T49 (q242 x) (q114 F) (λj i => T6 (opIn Tryz.f35 2 1) (q178 j) (λh => Br h.a.isNone (Done keC x F (fo_rt q285) [(0, F)]) (Look F ⟨j.p, 7, none⟩ q285 ∧ (∃(a : Unit), True ∧ (fo_vp (some ⟨j.p, 0, none⟩) = fo_vp (some ⟨x.y.bo, 0, none⟩) ∧ fo_vl none 0 0 = fo_vl none 0 0 ∧ fo_vi (↑(0 : Nat) : Int) = fo_vi 0 ∧ fo_vi 0 = fo_vi 0 ∧ True) ∧ Ent [(0, F)] [(0, F)]) ∧ fo_vA λ(g : Unit) _ => True → T47 F ⟨x.y.bo, 5, none⟩ (λe d c => fo_O4 (opIn Tryz.f35 10 5) (apC (9 : TypeId) 1 16) (λb => IsRow 9 1 b.cs b.r ∧ b.ys.length = b.m * 1 ∧ q169 b ∧ (b.r.n + b.m) * 16 ≤ 140737488355328 ∧ b.r.n + b.m ≤ 9223372036854775807 ∧ q261 b) q345 (λb a => IsRow 9 1 (b.cs ++ b.ys) a ∧ a.n = b.r.n + b.m ∧ (b.m = 0 → a = b.r)) [fo_vl none 0 0, fo_vl e d c] [fo_em] (fo_aR [(0, F)] [999]) (λb a => Done keC x F (q137 a) [(0, F), (500, a.A), (999, fo_em)]))))) := by
  delta q339 T49 q242 q114 T6 q178 q285 T47 q169 q261 q206 q345 q137 fo_aR fo_C2 fo_O4 fo_vi fo_vp fo_vl fo_em fo_rt fo_vA
  have hr : HoIn x.y x.b x.l F := hr
  have hc : x.l.length ≤ 10000 := hc
  have hkl : (ksL x.l).length = x.l.length := by unfold ksL; rw [strs_length, List.length_map]
  have hn := hr.src.len
  rw [hkl, Nat.mul_one] at hn
  refine ⟨at0_ok, rfl, ⟨x.b, x.y.br, 1, x.y.cap, x.y.bo⟩, rfl, rfl, Nat.one_pos, ⟨Look.rest (j := 0) (by simp) hr.l0, Look.rest (j := 0) (by simp) hr.l1⟩, λ_ _ => ⟨pn_ok rfl rfl, ⟨some ⟨x.y.bo, 0, none⟩⟩, rfl, fo_tv, br_intro (λh => by cases h) (λ_ => ⟨hr.it, ⟨(), fo_tv, ⟨rfl, rfl, rfl, rfl, fo_tv⟩, Ent.pick [0] rfl rfl⟩, λ_ js _ => ⟨x.y.ka, x.y.kn, x.y.kc, hr.ks, append_ok (P := Tryz.prog) 1 16 rfl rfl rfl rfl rfl rfl rfl (by decide), rfl, ⟨nilRow, [], x.y.ka, x.y.kn, x.y.kc, ksL x.l⟩, rfl, rfl, ⟨.nil rfl, by rw [hkl, Nat.mul_one]; exact hn, λu hu => ?_, by dsimp only [nilRow]; omega, by dsimp only [nilRow]; omega, hr.nil⟩, λa ha => Seg.rest (j := 0) (by simp) (hr.srd a ha), ?_⟩⟩)⟩⟩
  · unfold ksL strs at hu
    obtain ⟨s, _, rfl⟩ := List.mem_map.1 hu
    rfl
  · rintro y ⟨h1, h2, -⟩
    have h2 : y.n = 0 + x.y.kn := h2
    exact ⟨y, ⟨h1, by omega⟩, rfl, Ent.pick [500, 0] rfl rfl⟩
theorem ke_ok : fo_k 35 keC := fo 33 Tryz.func35 (λ_ _ => [(1, 2, .c at0C [] []), (2, 1, .qo pnC), (5, 3, .q [.ex 0 (.is (.slice none 0 0))]), (10, 4, .q [.ex 0 .slice]), (10, 5, .o (apC 9 1 16) [999] [500])]) [] keInv fo_i fo_o [] ke_vc
abbrev owC : Con where
  X := HrX
  Y := LpY
  args x := [.pointer (some ⟨x.b, 0, none⟩), .int .i64 0, .string x.k]
  pre _ := []
  cond _ := True
  rdc x F := HoIn x.y x.b x.l F
  rel x y := y = lpOf (getV x.k x.l)
  val _ y := .returned (.tuple #[.agg #[.int .i64 y.k, .float .f64 y.f, .string y.s, .int .i64 0], .bool y.ok])
  post _ _ := []
  rmono _ _ _ hs h := h.sub hs
def owOv (_x : HrX) (_F : Atom) : List (Nat × Nat × OH) := [(0, 0, .n 1000), (1, 2, .c at0C [] []), (2, 1, .qo pnC), (4, 3, .q [.ex 0 (.is (.int .i64 1))]), (12, 3, .q [.ex 0 (.is (.map (some _x.y.bm)))]), (12, 5, .o lkpC [] []), (12, 9, .n 13090), (12, 10, .w [.aq 13090, .aq 13090, .aq 13090, .aq 13090])]
abbrev q8 : List Value := [fo_vi 0, float f64 0, fo_vs ⟨#[]⟩, fo_vi 0]
abbrev q316 (F : Atom) (g : Nat) := fo_aR [(0, F), (1000, fo_cl g q8 30)] []
theorem ow_vc (x : HrX) (F : Atom) (hc : owC.cond x) (hr : owC.rdc x F) :
 ∀(g : Nat), T49 (q242 x) (q316 F g) (λf e => T6 (opIn Tryz.f36 2 1) (q178 f) (λd => Br d.a.isNone (fo_sm g 0 ∧ fo_sm g 1 ∧ fo_sm g 2 ∧ fo_sm g 3 ∧ fo_sm g 0 ∧ fo_sm g 1 ∧ fo_sm g 2 ∧ fo_sm g 3 ∧ Done owC x F (fo_rt (tuple ⟨[agg ⟨q8⟩, fo_vb false]⟩)) [(0, F), (1000, fo_cl g q8 30)]) (Look F ⟨f.p, 0, none⟩ (fo_vi 1) ∧ Look F ⟨f.p, 6, none⟩ (Value.map (some x.y.bm)) ∧ T51 ⟨some 60, Op.lookup 65 (Operand.tmp 58) (Operand.tmp 59) true, 76, "esheap.go:171", ⟨[⟨3, Ground.data⟩, ⟨4, Ground.data⟩]⟩, none⟩ [Value.map (some x.y.bm), fo_vs x.k] ([] : List Atom) (q316 F g) (λc b => ∀(a : Nat), fo_sm a 0 ∧ fo_sm a 1 ∧ fo_sm a 2 ∧ fo_sm a 3 ∧ fo_sm a 0 ∧ fo_sm a 1 ∧ fo_sm a 2 ∧ fo_sm a 3 ∧ fo_sm g 0 ∧ fo_sm g 1 ∧ fo_sm g 2 ∧ fo_sm g 3 ∧ fo_sm g 0 ∧ fo_sm g 1 ∧ fo_sm g 2 ∧ fo_sm g 3 ∧ Done owC x F (fo_rt (tuple ⟨[agg ⟨q58 b⟩, fo_vb b.ok]⟩)) [(0, F), (1000, fo_cl g (q58 b) 30), (13090, fo_cl a (q58 b) 30)])))) := by
  delta q339 T49 q242 q8 q316 T6 q178 T51 q58 fo_aR fo_sm fo_C2 fo_O4 fo_vi fo_vs fo_vb fo_vp fo_vl fo_cl fo_rt
  have hr : HoIn x.y x.b x.l F := hr
  intro b
  exact ⟨at0_ok, rfl, ⟨x.b, x.y.br, 1, x.y.cap, x.y.bo⟩, rfl, rfl, Nat.one_pos, ⟨Look.rest (j := 0) (by simp) hr.l0, Look.rest (j := 0) (by simp) hr.l1⟩, λ_ _ => ⟨pn_ok rfl rfl, ⟨some ⟨x.y.bo, 0, none⟩⟩, rfl, fo_tv, br_intro (λh => by cases h) (λ_ => ⟨hr.kd, hr.mp, lkp_ok rfl rfl rfl rfl (by kernel_rfl), rfl, ⟨x.y.bm, x.l, x.k⟩, rfl, rfl, fo_tv, MapInS.sub (sub_rest (A := F) 0 (by simp) rfl) hr.ml, λy hy d => ⟨⟨rfl, rfl⟩, ⟨rfl, rfl⟩, ⟨rfl, rfl⟩, ⟨rfl, rfl⟩, ⟨rfl, rfl⟩, ⟨rfl, rfl⟩, ⟨rfl, rfl⟩, ⟨rfl, rfl⟩, ⟨rfl, rfl⟩, ⟨rfl, rfl⟩, ⟨rfl, rfl⟩, ⟨rfl, rfl⟩, ⟨rfl, rfl⟩, ⟨rfl, rfl⟩, ⟨rfl, rfl⟩, ⟨rfl, rfl⟩, y, hy, rfl, Ent.pick [0] rfl rfl⟩⟩)⟩⟩
theorem ow_ok : fo_k 36 owC := fo 65 Tryz.func36 owOv [(3, 1, OH.w [LH.aq (1000 : Nat), LH.aq (1000 : Nat), LH.aq (1000 : Nat), LH.aq (1000 : Nat)]), (13, 0, OH.q [LH.aq (13090 : Nat), LH.aq (13090 : Nat), LH.aq (13090 : Nat), LH.aq (13090 : Nat)]), (13, 2, OH.w [LH.aq (1000 : Nat), LH.aq (1000 : Nat), LH.aq (1000 : Nat), LH.aq (1000 : Nat)])] fo_i fo_i fo_o [LH.aq 1000, LH.aq 1000, LH.aq 1000, LH.aq 1000] ow_vc
end
section
open Go
set_option maxHeartbeats 1000000
structure SlpX where
  b : Nat
  s : ByteArray
def txV (s : ByteArray) : Value := .agg #[.int .i64 4, .float .f64 0, .string s, .int .i64 0]
abbrev silC : Con where
  X := SlpX
  Y := Unit
  args x := [.pointer (some ⟨x.b, 0, none⟩), txV x.s]
  pre _ := []
  cond _ := True
  rdc _ _ := True
  rel _ _ := True
  val _ _ := .returned (.bool false)
  post _ _ := []
theorem sil_vc (x : SlpX) (F : Atom) (hc : silC.cond x) (hr : silC.rdc x F) :
 ∀(a : Nat), true = true ∧ fo_sm a 0 ∧ fo_sm a 0 ∧ fo_sm a 0 ∧ Done silC x F q54 [(0, F), (1000, fo_cl a [fo_vi 4, float f64 0, fo_vs x.s, fo_vi 0] 30)] := by
  delta q54 fo_sm fo_vi fo_vs fo_vb fo_cl fo_rt
  intro b
  exact ⟨rfl, ⟨rfl, rfl⟩, ⟨rfl, rfl⟩, ⟨rfl, rfl⟩, (), fo_tv, rfl, Ent.pick [0] rfl rfl⟩
theorem sil_ok : fo_k 26 silC := fo 28 Tryz.func26 (λ_ _ => [(0, 0, .n 1000)]) [(1, 1, OH.q [LH.aq (1000 : Nat)]), (1, 5, OH.q [LH.aq (1000 : Nat)]), (1, 10, OH.q [LH.aq (1000 : Nat)])] fo_i fo_i fo_o [] sil_vc
structure SioX where
  b : Nat
  h : Nat
  y : HaY
  l : KVs
def obVv : Value := .agg #[.int .i64 5, .float .f64 0, .string ⟨#[]⟩, .int .i64 0]
abbrev sioC : Con where
  X := SioX
  Y := Unit
  args x := [.pointer (some ⟨x.b, 0, none⟩), obVv]
  pre _ := []
  cond _ := True
  rdc x F := Look F ⟨x.b, 0, none⟩ (.pointer (some ⟨x.h, 0, none⟩)) ∧ HoIn x.y x.h x.l F
  rel _ _ := True
  val _ _ := .returned (.bool false)
  post _ _ := []
  rmono _ _ _ hs h := ⟨h.1.sub hs, h.2.sub hs⟩
def sioOv (x : SioX) (_F : Atom) : List (Nat × Nat × OH) := [(0, 0, .n 1000), (1, 16, .q [.ex 0 (.is (.pointer (some ⟨x.h, 0, none⟩)))]), (1, 19, .c kiC [] [])]
abbrev q12 : List Value := [fo_vi 5, float f64 0, fo_vs ⟨#[]⟩, fo_vi 0]
theorem sio_vc (x : SioX) (F : Atom) (hc : sioC.cond x) (hr : sioC.rdc x F) :
 ∀(c : Nat), true = true ∧ fo_sm c 0 ∧ fo_sm c 0 ∧ fo_sm c 0 ∧ Look F ⟨x.b, 0, none⟩ (fo_vp (some ⟨x.h, 0, none⟩)) ∧ fo_sm c 3 ∧ fo_C2 34 kiC (λ_ => True) (λb rr => HoIn b.y b.b b.l rr) [fo_vp (some ⟨x.h, 0, none⟩), fo_vi 0] (fo_aR [(0, F), (1000, fo_cl c q12 30)] []) (λb a => Done sioC x F (fo_rt (fo_vb ((1 : Int) == (3 : Int)))) [(0, F), (1000, fo_cl c q12 30)]) := by
  delta q12 fo_aR fo_sm fo_C2 fo_vi fo_vs fo_vb fo_vp fo_cl fo_rt
  obtain ⟨h1, h2⟩ := hr
  intro b
  exact ⟨rfl, ⟨rfl, rfl⟩, ⟨rfl, rfl⟩, ⟨rfl, rfl⟩, h1, ⟨rfl, rfl⟩, ki_ok, rfl, ⟨x.y, x.h, x.l, ⟨#[]⟩⟩, rfl, rfl, fo_tv, h2.sub (sub_rest (A := F) 0 (by simp) rfl), λ_ _ => ⟨(), fo_tv, rfl, Ent.pick [0] rfl rfl⟩⟩
theorem sio_ok : fo_k 26 sioC := fo 28 Tryz.func26 sioOv [(1, 1, OH.q [LH.aq (1000 : Nat)]), (1, 5, OH.q [LH.aq (1000 : Nat)]), (1, 10, OH.q [LH.aq (1000 : Nat)]), (1, 18, OH.q [LH.aq (1000 : Nat)])] fo_i fo_i fo_o [] sio_vc
abbrev vatC : Con where
  X := QuX
  Y := Unit ⊕ Unit
  args x := [.pointer (some ⟨x.j.b, 0, none⟩), txV x.w]
  pre x := [jwA x.j x.t]
  cond x := x.t.size ≤ 1048576 ∧ x.w.size ≤ 1048576
  rdc _ F := Utf F
  rel x y := match y with
    | .inl _ => (x.t ++ quV x.w).size ≤ 16384
    | .inr _ => 16384 < (x.t ++ quV x.w).size
  val _ y := match y with
    | .inl _ => .returned (.tuple #[])
    | .inr _ => .panicked [⟨eqV 112, false, false⟩]
  post x y := match y with
    | .inl _ => [jwA x.j (x.t ++ quV x.w)]
    | .inr _ => []
  rmono _ _ _ hs h := h.sub hs
  sum := some (sumS Unit Unit)
def T61 (aa : List Value) (pp : List Atom) (rr : Atom) (k0 : QuX → Unit → Prop) (k1 : QuX → Unit → Prop) := fo_k 74 quC ∧ true = true ∧ ∃ (z : QuX), aa = [fo_vp (q127 z), fo_vs z.w] ∧ pp = [fo_pr (Ex.rest (z.j.R z.t) z.j.B)] ∧ (z.t.size ≤ 1048576 ∧ z.w.size ≤ 1048576) ∧ Utf rr ∧ (∀ (u0 : Unit), (z.t ++ quV z.w).size.le 16384 → k0 z u0) ∧ ∀ (u1 : Unit), Nat.le 16385 (z.t ++ quV z.w).size → k1 z u1
abbrev q224 (x : QuX) : List Value := [fo_vi 4, float f64 0, fo_vs x.w, fo_vi 0]
theorem vat_vc (x : QuX) (F : Atom) (hc : vatC.cond x) (hr : vatC.rdc x F) :
 ∀(c : Nat), fo_sm c 0 ∧ fo_sm c 2 ∧ T61 [fo_vp (q127 x), fo_vs x.w] [fo_pr (Ex.rest (x.j.R x.t) x.j.B)] (fo_aR [(0, fo_pr (Ex.rest (x.j.R x.t) x.j.B)), (1, F), (1000, fo_cl c (q224 x) 30)] [0]) (λb a => Done vatC x F q74 [(0, fo_pr (Ex.rest (b.j.R (b.t ++ quV b.w)) b.j.B)), (1, F), (1000, fo_cl c (q224 x) 30)]) (λb a => Done vatC x F q36 [(0, fo_em), (1, F), (1000, fo_cl c (q224 x) 30)]) := by
  delta q127 T61 q224 q74 q36 fo_aR fo_sm fo_vi fo_vs fo_vp fo_vf fo_cl fo_pr fo_em fo_rt
  have hr : Utf F := hr
  intro b
  exact ⟨⟨rfl, rfl⟩, ⟨rfl, rfl⟩, qu_ok, rfl, ⟨x.j, x.t, x.w⟩, rfl, rfl, hc, Utf.rest (j := 1) (by simp) hr, λ_ h => ⟨.inl (), h, rfl, Ent.pick [0, 1] rfl rfl⟩, λ_ h => ⟨.inr (), h, rfl, Ent.pick [1] rfl rfl⟩⟩
theorem vat_ok : fo_k 27 vatC := fo 50 Tryz.func27 (λ_ _ => [(0, 0, .n 1000), (13, 3, .c quC [0] [0])]) [(1, 1, OH.q [LH.aq (1000 : Nat)]), (13, 2, OH.q [LH.aq (1000 : Nat)])] fo_i fo_i fo_o [] vat_vc
end
section
open Go
set_option maxHeartbeats 1000000
abbrev TVs := List (ByteArray × ByteArray)
def pvT (v : ByteArray) : Pv := .t v
def tvL (l : TVs) : KVs := l.map λp => (p.1, pvT p.2)
structure ObX where
  b : Nat
  h : Nat
  t : ByteArray
  y : HaY
  l : TVs
def JwX.st (j : JwX) (a : Option Addr) (n c : Nat) : JwX := ⟨j.b, j.h, a, n, c⟩
abbrev stK : Con where
  X := SjX
  Y := Unit
  args x := [.pointer (some ⟨x.j.b, 3, none⟩), .slice x.a x.n x.c]
  pre x := [jwA x.j x.t]
  cond _ := True
  rdc _ _ := True
  rel _ _ := True
  val _ _ := .returned undef
  post x _ := [jwA (x.j.st x.a x.n x.c) x.t]
theorem stk_ok {P : Program} {o : Oper} {a v : Operand} {t : TypeId} {inf : TypeInfo} (ho : o.op = .store t a v) (hi : P.info? t = some inf) (hk : inf.size = 1) : OpOk P o stK := (stj_ok ho hi hk : OpOk P o stJ)
def jw0 (b h : Nat) : JwX := ⟨b, ⟨h, 0, none⟩, none, 0, 0⟩
abbrev obC : Con where
  X := ObX
  Y := JwX ⊕ Unit
  args x := [.pointer (some ⟨x.b, 0, none⟩), .int .i64 0]
  pre x := [jwA (jw0 x.b x.h) x.t]
  cond x := x.t.size ≤ 16384 ∧ x.l.length ≤ 10000 ∧ (∀ p ∈ x.l, p.1.size ≤ 1048576 ∧ p.2.size ≤ 1048576) ∧ (x.l.map (·.1)).Nodup
  rdc x F := Utf F ∧ HoIn x.y x.h (tvL x.l) F
  rel x y := match y with
    | .inl _ => (x.t ++ obV quV x.l).size ≤ 16384
    | .inr _ => 16384 < (x.t ++ obV quV x.l).size
  val _ y := match y with
    | .inl _ => .returned (.tuple #[])
    | .inr _ => .panicked [⟨eqV 112, false, false⟩]
  post x y := match y with
    | .inl z => [jwA ((jw0 x.b x.h).st z.a z.n z.c) (x.t ++ obV quV x.l)]
    | .inr _ => []
  rmono _ _ _ hs h := ⟨h.1.sub hs, h.2.sub hs⟩
  sum := some (sumS JwX Unit)
structure ObS where
  i : Nat
  o : ByteArray
  kr : Row
  b : Nat
  cap : Nat
  sp : List Value
structure ObS.ok (d : ObS) (t : ByteArray) (l : TVs) : Prop where
  hi : d.i ≤ l.length
  ho : d.o.size ≤ 16384
  he : t ++ obV quV l = obF quV (l.drop d.i) (decide (d.i = 0)) d.o ++ btL [0, 125]
  hr : IsRow 9 1 (ksL (tvL l)) d.kr
  hn : d.kr.n = l.length
def obJ (x : ObX) (d : ObS) : JwX := ⟨x.b, ⟨x.h, 0, none⟩, some ⟨d.b, 0, none⟩, 1, d.cap⟩
theorem obF_app {α : Type} (j : α → ByteArray) (t : ByteArray) : ∀ (l : List (ByteArray × α)) (f : Bool) (o : ByteArray), t ++ obF j l f o = obF j l f (t ++ o)
  | [], _, _ => rfl
  | (k, v) :: r, f, o => by
    rw [obF, obF, obF_app j t r]
    cases f <;> simp only [fo_ct, fo_cf, ba_assoc]
theorem obF_size {α : Type} (j : α → ByteArray) : ∀ (l : List (ByteArray × α)) (f : Bool) (o : ByteArray), o.size ≤ (obF j l f o).size
  | [], _, _ => fo_nr _
  | (k, v) :: r, f, o => by
    rw [obF]
    refine fo_lt ?_ (obF_size j r false _)
    cases f <;> simp only [fo_ct, fo_cf, fo_sa] <;> omega
theorem obV_app {α : Type} (j : α → ByteArray) (t : ByteArray) (l : List (ByteArray × α)) : t ++ obV j l = obF j l true (t ++ btL [0, 123]) ++ btL [0, 125] := by
  unfold obV
  rw [← ba_assoc, obF_app]
theorem wide_lb : wideV ⟨#[123]⟩ = btL [0, 123] := ba_list (by decide +kernel)
theorem wide_rb : wideV ⟨#[125]⟩ = btL [0, 125] := ba_list (by decide +kernel)
theorem wide_cm : wideV ⟨#[44]⟩ = btL [0, 44] := ba_list (by decide +kernel)
theorem wide_cl : wideV ⟨#[58]⟩ = btL [0, 58] := ba_list (by decide +kernel)
theorem getV_at {k v : ByteArray} : ∀ {l : TVs} {i : Nat}, (l.map (·.1)).Nodup → l[i]? = some (k, v) → getV k (tvL l) = some (pvT v)
  | [], _, _, h => by simp at h
  | (a, b) :: r, 0, _, h => by
    have h : (a, b) = (k, v) := Option.some.inj h
    cases h
    show (List.find? (λp => bEq p.1 k) ((k, pvT v) :: tvL r)).map (·.2) = _
    rw [List.find?_cons, (bEq_eq k k).2 rfl] <;> rfl
  | (a, b) :: r, i + 1, hn, h => by
    have hn : (a :: r.map (·.1)).Nodup := hn
    have h : r[i]? = some (k, v) := h
    have ih := getV_at (List.nodup_cons.1 hn).2 h
    have hne : bEq a k = false := by
      rw [Bool.eq_false_iff]
      intro e
      have e := (bEq_eq a k).1 e
      subst e
      exact (List.nodup_cons.1 hn).1 (List.mem_map.2 ⟨_, fo_mg h, rfl⟩)
    show (List.find? (λp => bEq p.1 k) ((a, pvT b) :: tvL r)).map (·.2) = _
    rw [List.find?_cons, hne]
    exact ih
theorem obStep {l : TVs} {i : Nat} {k v o : ByteArray} (h : l[i]? = some (k, v)) : obF quV (l.drop i) (decide (i = 0)) o = obF quV (l.drop (i + 1)) false ((bif decide (i = 0) then o else o ++ btL [0, 44]) ++ quV k ++ btL [0, 58] ++ quV v) := by
  have : l.drop i = (k, v) :: l.drop (i + 1) := by
    have h2 := fo_gs.1 h
    rw [List.drop_eq_getElem_cons h2.1, h2.2]
  rw [this, obF]
def obInv (x : ObX) (F : Atom) : Nat → Option Inv := fun
  | 0 => some { X := Unit, P := λ_ => True, mu := λ_ => 0, lv := λ_ => [(0, .pointer (some ⟨x.b, 0, none⟩)), (1, .int .i64 0), (18, .slice none 0 0), (19, .int .i64 0), (20, .int .i64 0)], st := λ_ => [jwA (jw0 x.b x.h) x.t, F] }
  | 4 => some { X := ObS, P := λd => d.ok x.t x.l, mu := λd => x.l.length - d.i, lv := λd => [(0, .pointer (some ⟨x.b, 0, none⟩)), (1, .int .i64 0), (10, .bool (decide (d.i = 0))), (87, .slice d.kr.a d.kr.n d.kr.cap), (88, .int .i64 d.kr.n), (89, .int .i64 d.i)], st := λd => [jwA (obJ x d) d.o, F, d.kr.A, .cells d.b (.int .i64 0 :: d.sp) 3] }
  | _ => none
structure Ob2 where
  d : ObS
  b : Nat
  v : ByteArray
  k : ByteArray
  o : ByteArray
def obG (x : ObX) : (T : Type) × (Ob2 → T) := ⟨ObS, λe => e.d⟩
def obCut (x : ObX) (F : Atom) : Nat → Option Inv := fun
  | 31 => some { X := Ob2, P := λe => e.d.ok x.t x.l ∧ x.l[e.d.i]? = some (e.k, e.v) ∧ e.o = (bif decide (e.d.i = 0) then e.d.o else e.d.o ++ btL [0, 44]) ∧ e.o.size ≤ 16384, mu := λ_ => 0, lv := λe => [(0, .pointer (some ⟨x.b, 0, none⟩)), (1, .int .i64 0), (12, .string e.k), (13, .pointer (some ⟨e.b, 0, none⟩)), (87, .slice e.d.kr.a e.d.kr.n e.d.kr.cap), (88, .int .i64 e.d.kr.n), (89, .int .i64 e.d.i)], st := λe => [jwA (obJ x e.d) e.o, F, e.d.kr.A, .cells e.d.b (.int .i64 0 :: e.d.sp) 3, .cells e.b [.int .i64 4, .float .f64 0, .string e.v, .int .i64 0] 30], gh := some (obG x) }
  | _ => none
def obOv (x : ObX) (_F : Atom) : List (Nat × Nat × OH) := [(0, 3, .q [.ex 0 (.is (.slice none 0 0))]), (6, 3, .q [.ex 0 (.is (.slice none 0 0))]), (8, 4, .q [.ex 0 (.is (.slice none 0 0))]), (8, 6, .n 9060), (8, 7, .o (apB 3 1 8) [999] [500]), (8, 10, .o stK [0] [0]), (9, 3, .q [.ex 0 (.is (.pointer (some ⟨x.h, 0, none⟩)))]), (9, 5, .c itC [] []), (22, 1, .c sayC [0] [0]), (24, 3, .q [.ex 0 (.is (.pointer (some ⟨x.h, 0, none⟩)))]), (24, 5, .c keC [] [510]), (26, 0, .qo (ixQ 1)), (26, 1, .q [.ex 2 .str]), (27, 3, .q [.ex 0 (.is (.pointer (some ⟨x.h, 0, none⟩)))]), (27, 6, .c owC [] []), (27, 10, .n 28100), (27, 11, .w [.aq 28100, .aq 28100, .aq 28100, .aq 28100]), (28, 1, .q [.aq 28100, .aq 28100, .aq 28100, .aq 28100]), (28, 2, .c silC [] []), (30, 1, .c sayC [0] [0]), (32, 2, .c quC [0] [0]), (33, 1, .c sayC [0] [0]), (34, 1, .q [.aq 4, .aq 4, .aq 4, .aq 4]), (34, 2, .c vatC [0] [0]), (36, 1, .c sayC [0] [0]), (37, 4, .q [.ex 0 .slice]), (37, 8, .q [.ex 0 .slice]), (37, 11, .qo slQ), (37, 14, .o stK [0] [0])]
abbrev q217 (x : ObX) := fo_pr (Ex.rest ((jw0 x.b x.h).R x.t) (jw0 x.b x.h).B)
abbrev q108 (e0 : ObX) : Option Addr := some ⟨e0.b, 0, none⟩
def T62 (oo : Oper) := fo_O3 oo stK (λ_ => True)
abbrev q271 (x : ObX) : Option Addr := some ⟨x.h, 0, none⟩
abbrev q218 (D : SjX) (F : Atom) (E : BlkY) (G : ApX) (H : Nat) := [(0, fo_pr (Ex.rest ((D.j.st D.a D.n D.c).R D.t) (D.j.st D.a D.n D.c).B)), (1, F), (500, fo_cl E.b (G.cs ++ G.ys ++ E.sp) 3), (999, fo_em), (9060, fo_cl H [fo_vi 0] 3)]
abbrev q240 (y : JsX) := fo_pr (Ex.rest (y.j.R (y.t ++ wideV y.s)) y.j.B)
abbrev q251 (y : JsX) (F : Atom) (E : BlkY) (G : ApX) (H : Nat) := [(0, fo_pr (Ex.rest (y.j.R (y.t ++ wideV y.s)) y.j.B)), (1, F), (500, fo_cl E.b (G.cs ++ G.ys ++ E.sp) 3), (999, fo_em), (9060, fo_cl H [fo_vi 0] 3)]
abbrev q95 (x : ObX) (a : ObS) (F : Atom) := [(0, fo_pr (Ex.rest ((obJ x a).R a.o) (obJ x a).B)), (1, F), (2, a.kr.A), (3, fo_cl a.b (fo_vi 0 :: a.sp) 3)]
abbrev q267 (x : ObX) (s : ObS) (F : Atom) (m : Nat) (n : LpY) := [(0, fo_pr (Ex.rest ((obJ x s).R s.o) (obJ x s).B)), (1, F), (2, s.kr.A), (3, fo_cl s.b (fo_vi 0 :: s.sp) 3), (28100, fo_cl m (q58 n) 30)]
def q214 (z : Ob2) (e0 : ObX) (e1 : ObS) := (z.d.ok e0.t e0.l ∧ e0.l[z.d.i]? = some (z.k, z.v) ∧ (z.o = bif decide (z.d.i = 0) then z.d.o else z.d.o ++ btL [0, 44]) ∧ z.o.size ≤ 16384) ∧ (obG e0).snd z = e1
abbrev q88 (z : Ob2) : List Value := [fo_vi 4, float f64 0, fo_vs z.v, fo_vi 0]
abbrev q226 (e0 : ObX) (z : Ob2) (e2 : Atom) := [(0, fo_pr (Ex.rest ((obJ e0 z.d).R z.o) (obJ e0 z.d).B)), (1, e2), (2, z.d.kr.A), (3, fo_cl z.d.b (fo_vi 0 :: z.d.sp) 3), (4, fo_cl z.b (q88 z) 30)]
def T63 (e0 : ObX) (e1 : ObS) (e2 : Atom) (v0 v1 v2 v3 v4 : Value) (ss : St) := ∃ (z : Ob2), q214 z e0 e1 ∧ (fo_vp (q108 e0) = fo_vp (q108 e0) ∧ fo_vi 0 = fo_vi 0 ∧ v0 = fo_vs z.k ∧ v1 = fo_vp (some ⟨z.b, 0, none⟩) ∧ v2 = fo_vl z.d.kr.a z.d.kr.n z.d.kr.cap ∧ v3 = fo_vi ↑z.d.kr.n ∧ v4 = fo_vi ↑z.d.i ∧ True) ∧ Ent ss (q226 e0 z e2)
abbrev q264 (c : JsX) (F : Atom) (s : ObS) (m : Nat) (n : LpY) := [(0, fo_pr (Ex.rest (c.j.R (c.t ++ wideV c.s)) c.j.B)), (1, F), (2, s.kr.A), (3, fo_cl s.b (fo_vi 0 :: s.sp) 3), (28100, fo_cl m (q58 n) 30)]
abbrev q223 (g : QuX) (F : Atom) (i : Ob2) := [(0, fo_pr (Ex.rest (g.j.R (g.t ++ quV g.w)) g.j.B)), (1, F), (2, i.d.kr.A), (3, fo_cl i.d.b (fo_vi 0 :: i.d.sp) 3), (4, fo_cl i.b (q88 i) 30)]
abbrev q220 (e : JsX) (F : Atom) (i : Ob2) := [(0, fo_pr (Ex.rest (e.j.R (e.t ++ wideV e.s)) e.j.B)), (1, F), (2, i.d.kr.A), (3, fo_cl i.d.b (fo_vi 0 :: i.d.sp) 3), (4, fo_cl i.b (q88 i) 30)]
abbrev q273 (F : Atom) (i : Ob2) := [(0, fo_em), (1, F), (2, i.d.kr.A), (3, fo_cl i.d.b (fo_vi 0 :: i.d.sp) 3), (4, fo_cl i.b (q88 i) 30)]
def T64 (oo : Oper) (aa : List Value) (k0 : SlQX → Prop) := QOpOk Tryz.prog oo slQ ∧ ∃ (z : SlQX), aa = [fo_vl z.a z.n z.cap, fo_vi z.h] ∧ (0 ≤ z.h ∧ z.h ≤ z.cap) ∧ k0 z
theorem ob_vc (x : ObX) (F : Atom) (hc : obC.cond x) (hr : obC.rdc x F) :
 Look (q217 x) ⟨x.b, 3, none⟩ q285 ∧ (∃(a : Unit), True ∧ (fo_vp (q108 x) = fo_vp (q108 x) ∧ fo_vi 0 = fo_vi 0 ∧ fo_vl none 0 0 = fo_vl none 0 0 ∧ fo_vi (↑(0 : Nat) : Int) = fo_vi 0 ∧ fo_vi 0 = fo_vi 0 ∧ True) ∧ Ent [(0, fo_pr (Ex.rest ((jw0 x.b x.h).R x.t) (jw0 x.b x.h).B)), (1, F)] [(0, fo_pr (Ex.rest ((jw0 x.b x.h).R x.t) (jw0 x.b x.h).B)), (1, F)]) ∧ fo_vA λ(J : Unit) _ => True → Look (q217 x) ⟨x.b, 3, none⟩ q285 ∧ Look (q217 x) ⟨x.b, 3, none⟩ q285 ∧ ∀(H : Nat), fo_O4 (opIn Tryz.f75 8 7) (apB (3 : TypeId) 1 8) (λG => IsRow 3 1 G.cs G.r ∧ G.ys.length = G.m * 1 ∧ q169 G ∧ (G.r.n + G.m) * 8 ≤ 140737488355328 ∧ G.r.n + G.m ≤ 9223372036854775807 ∧ 0 < G.m ∧ (G.a = none → G.m = 0)) (λG rr => q206 G rr) (λG E => (G.cs ++ G.ys ++ E.sp).length = E.cap * 1 ∧ G.r.n + G.m ≤ E.cap) [fo_vl none 0 0, fo_vl (q17 H) 1 1] [fo_em] (fo_aR [(0, fo_pr (Ex.rest ((jw0 x.b x.h).R x.t) (jw0 x.b x.h).B)), (1, F), (9060, fo_cl H [fo_vi 0] 3)] [999]) (λG E => T62 (opIn Tryz.f75 8 10) [fo_vp (some ⟨x.b, 3, none⟩), fo_vl (some ⟨E.b, 0, none⟩) (G.r.n + G.m) E.cap] [fo_pr (Ex.rest ((jw0 x.b x.h).R x.t) (jw0 x.b x.h).B)] (λD C => Look (fo_pr (Ex.rest ((D.j.st D.a D.n D.c).R D.t) (D.j.st D.a D.n D.c).B)) ⟨x.b, 0, none⟩ (fo_vp (q271 x)) ∧ fo_C2 123 itC (λ_ => True) (λA rr => HoIn A.y A.b A.l rr) [fo_vp (q271 x), fo_vi 0] (fo_aR (q218 D F E G H) []) (λA z => T57 [fo_vp (q108 x), fo_vs ⟨#[123]⟩] [fo_pr (Ex.rest ((D.j.st D.a D.n D.c).R D.t) (D.j.st D.a D.n D.c).B)] (fo_aR (q218 D F E G H) [0]) (λy w => Look (q240 y) ⟨x.b, 0, none⟩ (fo_vp (q271 x)) ∧ fo_C4 35 keC (λu => List.length u.l ≤ 10000) (λu rr => HoIn u.y u.b u.l rr) (λu t => IsRow 9 1 (ksL u.l) t ∧ t.n = List.length u.l) [fo_vp (q271 x), fo_vi 0] ([] : List Atom) (fo_aR (q251 y F E G H) []) (λu t => (∃(a : ObS), a.ok x.t x.l ∧ (fo_vp (q108 x) = fo_vp (q108 x) ∧ fo_vi 0 = fo_vi 0 ∧ fo_vb true = fo_vb (decide (a.i = 0)) ∧ fo_vl t.a t.n t.cap = fo_vl a.kr.a a.kr.n a.kr.cap ∧ fo_vi ↑t.n = fo_vi ↑a.kr.n ∧ fo_vi 0 = fo_vi ↑a.i ∧ True) ∧ Ent [(0, fo_pr (Ex.rest (y.j.R (y.t ++ wideV y.s)) y.j.B)), (1, F), (500, fo_cl E.b (G.cs ++ G.ys ++ E.sp) 3), (510, t.A), (999, fo_em), (9060, fo_cl H [fo_vi 0] 3)] (q95 x a F)) ∧ fo_vA λ(s : ObS) _ => s.ok x.t x.l → fo_Bd ((s.i : Int) < (s.kr.n : Int)) (T48 (opIn Tryz.f75 26 0) [fo_vl s.kr.a s.kr.n s.kr.cap, fo_vi ↑s.i] (λq => T25 s.kr.A ⟨q.b, q.o + q.n.toNat * 1, none⟩ (λp => Look (fo_pr (Ex.rest ((obJ x s).R s.o) (obJ x s).B)) ⟨x.b, 0, none⟩ (fo_vp (q271 x)) ∧ fo_C4 36 owC (λ_ => True) (λo rr => HoIn o.y o.b o.l rr) (λo n => n = lpOf (getV o.k o.l)) [fo_vp (q271 x), fo_vi 0, fo_vs p] ([] : List Atom) (fo_aR (q95 x s F) []) (λo n => ∀(m : Nat), fo_sm m 0 ∧ fo_sm m 1 ∧ fo_sm m 2 ∧ fo_sm m 3 ∧ fo_sm m 0 ∧ fo_sm m 1 ∧ fo_sm m 2 ∧ fo_sm m 3 ∧ fo_C0 26 silC [fo_vp (q108 x), agg ⟨q58 n⟩] (λl k => ∃(j : ObS), Br (!decide (s.i = 0)) (T57 [fo_vp (q108 x), fo_vs ⟨#[44]⟩] [fo_pr (Ex.rest ((obJ x s).R s.o) (obJ x s).B)] (fo_aR (q267 x s F m n) [0]) (λc b => T63 x j F (fo_vs p) (q233 m) (fo_vl s.kr.a s.kr.n s.kr.cap) (fo_vi ↑s.kr.n) (fo_vi ↑s.i) (q264 c F s m n)) (λc a => Done obC x F q36 (q264 c F s m n))) (T63 x j F (fo_vs p) (q233 m) (fo_vl s.kr.a s.kr.n s.kr.cap) (fo_vi ↑s.kr.n) (fo_vi ↑s.i) (q267 x s F m n)) ∧ fo_vA λ(i : Ob2) _ => q214 i x j → T61 [fo_vp (q108 x), fo_vs i.k] [fo_pr (Ex.rest ((obJ x i.d).R i.o) (obJ x i.d).B)] (fo_aR (q226 x i F) [0]) (λg f => T57 [fo_vp (q108 x), fo_vs ⟨#[58]⟩] [fo_pr (Ex.rest (g.j.R (g.t ++ quV g.w)) g.j.B)] (fo_aR (q223 g F i) [0]) (λe d => fo_sm i.b 0 ∧ fo_sm i.b 1 ∧ fo_sm i.b 2 ∧ fo_sm i.b 3 ∧ fo_k 27 vatC ∧ true = true ∧ ∃(c : QuX), [fo_vp (q108 x), agg ⟨q88 i⟩] = [fo_vp (q127 c), agg ⟨q224 c⟩] ∧ [fo_pr (Ex.rest (e.j.R (e.t ++ wideV e.s)) e.j.B)] = [fo_pr (Ex.rest (c.j.R c.t) c.j.B)] ∧ (c.t.size ≤ 1048576 ∧ c.w.size ≤ 1048576) ∧ Utf (fo_aR (q220 e F i) [0]) ∧ (∀(b : Unit), (c.t ++ quV c.w).size.le 16384 → fo_rI ((i.d.i : Int) + 1) ∧ ∃(a : ObS), a.ok x.t x.l ∧ (fo_vp (q108 x) = fo_vp (q108 x) ∧ fo_vi 0 = fo_vi 0 ∧ fo_vb false = fo_vb (decide (a.i = 0)) ∧ fo_vl i.d.kr.a i.d.kr.n i.d.kr.cap = fo_vl a.kr.a a.kr.n a.kr.cap ∧ fo_vi ↑i.d.kr.n = fo_vi ↑a.kr.n ∧ fo_vi ((i.d.i : Int) + 1) = fo_vi ↑a.i ∧ True) ∧ Ent (q223 c F i) (q95 x a F) ∧ List.length x.l - a.i < List.length x.l - s.i) ∧ ∀(a : Unit), Nat.le 16385 (c.t ++ quV c.w).size → Done obC x F q36 (q273 F i)) (λe a => Done obC x F q36 (q220 e F i))) (λg a => Done obC x F q36 (q273 F i))))))) (T57 [fo_vp (q108 x), fo_vs ⟨#[125]⟩] [fo_pr (Ex.rest ((obJ x s).R s.o) (obJ x s).B)] (fo_aR (q95 x s F) [0]) (λk j => true = true ∧ T47 (q240 k) ⟨x.b, 3, none⟩ (λi h g => T47 (q240 k) ⟨x.b, 3, none⟩ (λf e d => fo_rI ((e : Int) - (1 : Int)) ∧ T64 (opIn Tryz.f75 37 11) [fo_vl i h g, fo_vi ((e : Int) - (1 : Int))] (λc => T62 (opIn Tryz.f75 37 14) [fo_vp (some ⟨x.b, 3, none⟩), fo_vl c.a c.h.toNat c.cap] [fo_pr (Ex.rest (k.j.R (k.t ++ wideV k.s)) k.j.B)] (λb a => Done obC x F q74 [(0, fo_pr (Ex.rest ((b.j.st b.a b.n b.c).R b.t) (b.j.st b.a b.n b.c).B)), (1, F), (2, s.kr.A), (3, fo_cl s.b (fo_vi 0 :: s.sp) 3)]))))) (λk a => Done obC x F q36 [(0, fo_pr (Ex.rest (k.j.R (k.t ++ wideV k.s)) k.j.B)), (1, F), (2, s.kr.A), (3, fo_cl s.b (fo_vi 0 :: s.sp) 3)])))) (λy a => Done obC x F q36 (q251 y F E G H))))) := by
  delta q217 q285 q108 q169 q206 q17 T62 q271 q218 T57 q240 q251 q95 q175 T48 T25 q58 q267 q214 q88 q226 T63 q233 q264 q36 q127 T61 q223 q224 q220 q273 T47 T64 q74 fo_aR fo_sm fo_rI fo_C0 fo_C2 fo_C4 fo_O3 fo_O4 fo_vi fo_vs fo_vb fo_vp fo_vl fo_vf fo_cl fo_pr fo_em fo_Bd fo_rt fo_vA
  obtain ⟨b, h, t, y, l⟩ := x
  obtain ⟨ht, hl, hsz, hnd⟩ := hc
  obtain ⟨hu, hh⟩ := hr
  have hu : Utf F := hu
  have hh : HoIn y h (tvL l) F := hh
  dsimp only at ht hl hsz hnd ⊢
  have big : ∀ (S : St), 16384 < (t ++ obV quV l).size → Ent S (ofL [F]) → Done obC ⟨b, h, t, y, l⟩ F (panicked [⟨eqV 112, false, false⟩]) S := λS h1 h2 => ⟨.inr (), h1, rfl, h2⟩
  have htl : (tvL l).length = l.length := by unfold tvL; simp
  refine ⟨jw_look3 (jw0 b h) t, ⟨(), fo_tv, ⟨rfl, rfl, rfl, rfl, rfl, fo_tv⟩, Ent.pick [0, 1] rfl rfl⟩, λ_ js _ => ⟨jw_look3 (jw0 b h) t, jw_look3 (jw0 b h) t, λd => ⟨appendB_ok (append_ok (P := Tryz.prog) 1 8 rfl rfl rfl rfl rfl rfl rfl (by decide)), rfl, ⟨nilRow, [], some ⟨d, 0, none⟩, 1, 1, [.int .i64 0]⟩, rfl, rfl, ⟨.nil rfl, rfl, λu hu => by rw [List.mem_singleton.1 hu] <;> rfl, by dsimp only [nilRow]; omega, by dsimp only [nilRow]; omega, Nat.one_pos, by simp⟩, ?_, ?_⟩⟩⟩
  · intro a ha
    cases ha
    exact Seg.rest (j := 9060) (by simp) (Seg.cells (λj u hj => by rw [fo_za]; exact hj))
  rintro ⟨d, cap, sp⟩ ⟨g1, g2⟩
  refine ⟨stk_ok (P := Tryz.prog) rfl rfl rfl, rfl, ⟨(jw0 b h), t, some ⟨d, 0, none⟩, 1, cap⟩, rfl, rfl, fo_tv, fo_tv, λ_ _ => ⟨jw_look0 ⟨b, ⟨h, 0, none⟩, some ⟨d, 0, none⟩, 1, cap⟩ t, it_ok, rfl, ⟨y, h, tvL l, ⟨#[]⟩⟩, rfl, rfl, fo_tv, hh.sub (sub_rest (A := F) 1 (by simp) rfl), λ_ _ => ⟨say_ok, rfl, ⟨⟨b, ⟨h, 0, none⟩, some ⟨d, 0, none⟩, 1, cap⟩, t, ⟨#[123]⟩⟩, rfl, rfl, ⟨by dsimp only; omega, show (1 : Nat) ≤ 1048576 by omega⟩, Utf.rest (j := 1) (by simp) hu, λ_ g => ?_, λ_ g => big _ ?_ (Ent.pick [1] rfl rfl)⟩⟩⟩
  rotate_left
  · have g : 16384 < (t ++ wideV ⟨#[123]⟩).size := g
    rw [wide_lb] at g
    rw [obV_app, fo_sa]
    have := obF_size quV l true (t ++ btL [0, 123])
    omega
  have g : (t ++ wideV ⟨#[123]⟩).size ≤ 16384 := g
  rw [wide_lb] at g
  refine ⟨jw_look0 ⟨b, ⟨h, 0, none⟩, some ⟨d, 0, none⟩, 1, cap⟩ _, ke_ok, rfl, ⟨y, h, tvL l, ⟨#[]⟩⟩, rfl, rfl, by dsimp only; omega, hh.sub (sub_rest (A := F) 1 (by simp) rfl), λkr hk => ⟨⟨⟨0, t ++ btL [0, 123], kr, d, cap, sp⟩, ⟨fo_zl _, g, obV_app _ _ _, hk.1, by have := hk.2; dsimp only at this ⊢; omega⟩, ⟨rfl, rfl, rfl, rfl, rfl, rfl, fo_tv⟩, Ent.pick [0, 1, 510, 500] rfl (by rw [← wide_lb] <;> rfl)⟩, ?_⟩⟩
  clear g1 g2 g hk
  rintro ⟨i, o, kr, d, cap, sp⟩ js ⟨h1, h2, h3, h4, h5⟩
  dsimp only at h1 h2 h3 h4 h5 ⊢
  refine br_decide (λhlt => ?_) (λhge => ?_)
  · have hlt : i < l.length := by omega
    obtain ⟨⟨k, v⟩, hkv⟩ : ∃ q, l[i]? = some q := ⟨l[i], fo_ge hlt⟩
    have hg := getV_at hnd hkv
    have hz := hsz _ (fo_mg hkv)
    dsimp only at hz
    have hki : (ksL (tvL l))[i]? = some (.string k) := by
      unfold ksL strs tvL
      rw [fo_gm, fo_gm, fo_gm, hkv] <;> rfl
    have hst := obStep (o := o) hkv
    have hos : (bif decide (i = 0) then o else o ++ btL [0, 44]).size ≤ 16386 := by
      cases decide (i = 0)
      · rw [fo_cf, sz_app]; simp only [fo_lc, List.length_nil]; omega
      · rw [fo_ct]; omega
    obtain ⟨o', ho'⟩ : ∃ o', o' = (bif decide (i = 0) then o else o ++ btL [0, 44]) := ⟨_, rfl⟩
    rw [← ho'] at hst hos
    have hbig : ∀ p : ByteArray, p.size ≤ (o' ++ quV k ++ btL [0, 58] ++ quV v).size → 16384 < p.size → 16384 < (t ++ obV quV l).size := λp h1 h2 => by
      rw [h3, hst, fo_sa]
      have := obF_size quV (l.drop (i + 1)) false (o' ++ quV k ++ btL [0, 58] ++ quV v)
      omega
    cases h4 with
    | nil h => rw [h] at hki; simp at hki
    | blk kb n kc ksp hl1 hs1 hn1 =>
    dsimp only at h5
    subst h5
    refine ⟨ixq_ok 1 rfl rfl rfl rfl, ⟨kb, 0, l.length, kc, i⟩, rfl, ⟨by dsimp only; omega, by dsimp only; omega⟩, k, Look.cells ?_, jw_look0 ⟨b, ⟨h, 0, none⟩, some ⟨d, 0, none⟩, 1, cap⟩ o, ow_ok, rfl, ⟨y, h, tvL l, k⟩, rfl, rfl, fo_tv, hh.sub (sub_rest (A := F) 1 (by simp) rfl), λq hq d2 => ?_⟩
    · show (ksL (tvL l) ++ ksp)[0 + (i : Int).toNat * 1]? = _
      rw [fo_tn, Nat.mul_one, fo_za, fo_gl (fo_gs.1 hki).1, hki]
    have hq : q = lpOf (getV k (tvL l)) := hq
    rw [hg] at hq
    subst hq
    refine ⟨⟨rfl, rfl⟩, ⟨rfl, rfl⟩, ⟨rfl, rfl⟩, ⟨rfl, rfl⟩, ⟨rfl, rfl⟩, ⟨rfl, rfl⟩, ⟨rfl, rfl⟩, ⟨rfl, rfl⟩, sil_ok, rfl, ⟨b, v⟩, rfl, rfl, fo_tv, fo_tv, λ_ _ => ⟨⟨i, o, ⟨some ⟨kb, 0, none⟩, l.length, kc, .cells kb (ksL (tvL l) ++ ksp) 9⟩, d, cap, sp⟩, ?_, ?_⟩⟩
    · have hok : (⟨i, o, ⟨some ⟨kb, 0, none⟩, l.length, kc, .cells kb (ksL (tvL l) ++ ksp) 9⟩, d, cap, sp⟩ : ObS).ok t l := ⟨h1, h2, h3, .blk kb _ kc ksp hl1 hs1 hn1, rfl⟩
      refine br_intro (λhi0 => ?_) (λhi0 => ?_)
      · have hi0 : decide (i = 0) = false := by simpa using hi0
        have he' : o' = o ++ btL [0, 44] := by rw [ho', hi0] <;> rfl
        refine ⟨say_ok, rfl, ⟨⟨b, ⟨h, 0, none⟩, some ⟨d, 0, none⟩, 1, cap⟩, o, ⟨#[44]⟩⟩, rfl, rfl, ⟨by dsimp only; omega, show (1 : Nat) ≤ 1048576 by omega⟩, Utf.rest (j := 1) (by simp) hu, λ_ g => ?_, λ_ g => big _ (hbig o' (by simp only [fo_sa]; omega) ?_) (Ent.pick [1] rfl rfl)⟩
        · have g : (o ++ wideV ⟨#[44]⟩).size ≤ 16384 := g
          rw [wide_cm, ← he'] at g
          exact ⟨⟨_, d2, v, k, o'⟩, ⟨⟨hok, hkv, ho', g⟩, rfl⟩, ⟨rfl, rfl, rfl, rfl, rfl, rfl, rfl, fo_tv⟩, Ent.pick [0, 1, 2, 3, 28100] rfl (by dsimp only; rw [he', ← wide_cm] <;> rfl)⟩
        · have g : 16384 < (o ++ wideV ⟨#[44]⟩).size := g
          rw [wide_cm, ← he'] at g
          exact g
      · have hi0 : decide (i = 0) = true := by simpa using hi0
        have he' : o' = o := by rw [ho', hi0] <;> rfl
        exact ⟨⟨_, d2, v, k, o'⟩, ⟨⟨hok, hkv, ho', by dsimp only; rw [he']; exact h2⟩, rfl⟩, ⟨rfl, rfl, rfl, rfl, rfl, rfl, rfl, fo_tv⟩, Ent.pick [0, 1, 2, 3, 28100] rfl (by dsimp only; rw [he'] <;> rfl)⟩
    rintro ⟨d', d3, v', k', o2⟩ js ⟨⟨_, hkv', hoo, hoz⟩, hd⟩
    have hd : d' = ⟨i, o, ⟨some ⟨kb, 0, none⟩, l.length, kc, .cells kb (ksL (tvL l) ++ ksp) 9⟩, d, cap, sp⟩ := hd
    subst hd
    dsimp only at hkv' hoo hoz ⊢
    rw [← ho'] at hoo
    subst hoo
    rw [hkv] at hkv'
    cases hkv'
    refine ⟨qu_ok, rfl, ⟨⟨b, ⟨h, 0, none⟩, some ⟨d, 0, none⟩, 1, cap⟩, o2, k⟩, rfl, rfl, ⟨by dsimp only; omega, hz.1⟩, Utf.rest (j := 1) (by simp) hu, λ_ g1 => ?_, λ_ g1 => big _ (hbig _ (by simp only [fo_sa]; omega) g1) (Ent.pick [1] rfl rfl)⟩
    have g1 : (o2 ++ quV k).size ≤ 16384 := g1
    refine ⟨say_ok, rfl, ⟨⟨b, ⟨h, 0, none⟩, some ⟨d, 0, none⟩, 1, cap⟩, o2 ++ quV k, ⟨#[58]⟩⟩, rfl, rfl, ⟨by dsimp only; omega, show (1 : Nat) ≤ 1048576 by omega⟩, Utf.rest (j := 1) (by simp) hu, λ_ g2 => ?_, λ_ g2 => big _ ?_ (Ent.pick [1] rfl rfl)⟩
    rotate_left
    · have g2 : 16384 < (o2 ++ quV k ++ wideV ⟨#[58]⟩).size := g2
      rw [wide_cl] at g2
      exact hbig _ (by simp only [fo_sa]; omega) g2
    have g2 : (o2 ++ quV k ++ wideV ⟨#[58]⟩).size ≤ 16384 := g2
    rw [wide_cl] at g2
    refine ⟨⟨rfl, rfl⟩, ⟨rfl, rfl⟩, ⟨rfl, rfl⟩, ⟨rfl, rfl⟩, vat_ok, rfl, ⟨⟨b, ⟨h, 0, none⟩, some ⟨d, 0, none⟩, 1, cap⟩, o2 ++ quV k ++ btL [0, 58], v⟩, rfl, by rw [← wide_cl], ⟨by dsimp only; omega, hz.2⟩, Utf.rest (j := 1) (by simp) hu, λ_ g3 => ?_, λ_ g3 => big _ (hbig _ (fo_nr _) g3) (Ent.pick [1] rfl rfl)⟩
    have g3 : (o2 ++ quV k ++ btL [0, 58] ++ quV v).size ≤ 16384 := g3
    exact ⟨⟨by omega, by omega⟩, ⟨i + 1, o2 ++ quV k ++ btL [0, 58] ++ quV v, _, d, cap, sp⟩, ⟨(fo_gs.1 hkv).1, g3, h3.trans (by rw [hst] <;> rfl), .blk kb _ kc ksp hl1 hs1 hn1, rfl⟩, ⟨rfl, rfl, rfl, rfl, rfl, rfl, fo_tv⟩, Ent.pick [0, 1, 2, 3] rfl rfl, by show l.length - (i + 1) < l.length - i; omega⟩
  · have hie : i = l.length := by omega
    have h3 : t ++ obV quV l = o ++ btL [0, 125] := by
      rw [h3, hie, List.drop_length] <;> rfl
    refine ⟨say_ok, rfl, ⟨⟨b, ⟨h, 0, none⟩, some ⟨d, 0, none⟩, 1, cap⟩, o, ⟨#[125]⟩⟩, rfl, rfl, ⟨by dsimp only; omega, show (1 : Nat) ≤ 1048576 by omega⟩, Utf.rest (j := 1) (by simp) hu, λ_ g => ?_, λ_ g => big _ ?_ (Ent.pick [1] rfl rfl)⟩
    · have g : (o ++ wideV ⟨#[125]⟩).size ≤ 16384 := g
      rw [wide_rb, ← h3] at g
      exact ⟨rfl, some ⟨d, 0, none⟩, 1, cap, jw_look3 ⟨b, ⟨h, 0, none⟩, some ⟨d, 0, none⟩, 1, cap⟩ _, some ⟨d, 0, none⟩, 1, cap, jw_look3 ⟨b, ⟨h, 0, none⟩, some ⟨d, 0, none⟩, 1, cap⟩ _, ⟨by omega, by omega⟩, slq_ok rfl rfl rfl, ⟨some ⟨d, 0, none⟩, 1, cap, 0⟩, rfl, ⟨fo_ir 0, Int.natCast_nonneg _⟩, stk_ok (P := Tryz.prog) rfl rfl rfl, rfl, ⟨⟨b, ⟨h, 0, none⟩, some ⟨d, 0, none⟩, 1, cap⟩, o ++ wideV ⟨#[125]⟩, some ⟨d, 0, none⟩, 0, cap⟩, rfl, rfl, fo_tv, fo_tv, λ_ _ => ⟨.inl ⟨b, ⟨h, 0, none⟩, some ⟨d, 0, none⟩, 0, cap⟩, g, rfl, Ent.pick [0, 1] rfl (by dsimp only [obC]; rw [h3, ← wide_rb] <;> rfl)⟩⟩
    · have g : 16384 < (o ++ wideV ⟨#[125]⟩).size := g
      rw [wide_rb, ← h3] at g
      exact g
theorem ob_ok : fo_k 75 obC := fo 135 Tryz.func75 obOv [] obInv obCut fo_o [] ob_vc
end
section
open Go
theorem Look.objc {b o : Nat} {vs : List Value} {t : TypeId} {fr : Nat × Nat} {v : Value} (h : vs[o]? = some v) : Look (.obj b (.cells ⟨vs⟩ t fr)) ⟨b, o, none⟩ v := ⟨λI h' o' _ hA => by
  rw [cellOf_cells hA.2]; exact h⟩
structure SbY where
  b : Nat
  c : Nat
def sbRow (s : ByteArray) (c : Nat) : Array Value := bytesRow s c
abbrev s2bC (e : TypeId) : Con where
  X := WdX
  Y := SbY
  args x := [.string x.s]
  pre _ := []
  cond _ := True
  rdc _ _ := True
  rel x y := x.s.size ≤ y.c
  val x y := .returned (.slice (some ⟨y.b, 0, none⟩) x.s.size y.c)
  post x y := [.obj y.b (.cells (sbRow x.s y.c) e ((sbRow x.s y.c).size, (sbRow x.s y.c).size + 1))]
theorem s2b_ok {P : Program} {o : Oper} {src dst e : TypeId} {x : Operand} (ho : o.op = .convert src dst x) (hs : P.underlying src = some .string) (hd : P.underlying dst = some (.slice e)) (he : P.underlying e = some (.int .u8)) : OpOk P o (s2bC e) := by
  refine ⟨λy F I w ρ ha hc hr hst => ?_⟩
  obtain ⟨s⟩ := y
  simp only [ho, Op.operands, s2bC] at ha
  have ha2 : ρ x = .string s := by simpa using ha
  have hrun := run_bytes_of_string w src dst e s hs hd he
  refine ⟨⟨w.heap.size, grownCap w s.size 0 e⟩, I, w.drew.alloc (.cells (bytesRow s (grownCap w s.size 0 e)) e ((bytesRow s (grownCap w s.size 0 e)).size, (bytesRow s (grownCap w s.size 0 e)).size + 1)), .slice (some ⟨w.heap.size, 0, none⟩) s.size (grownCap w s.size 0 e), grownCap_ge w s.size 0 e, .inl ?_, rfl, Imm.le_refl I, ?_, ?_⟩
  · simp only [execOp, ho, ha2]
    show ((convert src dst (.string s)) >>= λv => (pure (Next.value v) : Sem Next)).run P w = _
    rw [Sem.run_bind, hrun] <;> rfl
  · have h1 : Sat I (ofL [F]) w := hst
    have := (h1.heap (w' := w.drew) rfl).new 1 (.cells (bytesRow s (grownCap w s.size 0 e)) e ((bytesRow s (grownCap w s.size 0 e)).size, (bytesRow s (grownCap w s.size 0 e)).size + 1))
    have hm : mkAtom w.drew.heap.size (.cells (bytesRow s (grownCap w s.size 0 e)) e ((bytesRow s (grownCap w s.size 0 e)).size, (bytesRow s (grownCap w s.size 0 e)).size + 1)) = .obj w.heap.size (.cells (bytesRow s (grownCap w s.size 0 e)) e ((bytesRow s (grownCap w s.size 0 e)).size, (bytesRow s (grownCap w s.size 0 e)).size + 1)) := by
      generalize (bytesRow s (grownCap w s.size 0 e)).size = n
      cases n <;> rfl
    rw [hm] at this
    exact Sat.pick [1, 0] rfl rfl this
  · exact ⟨rfl, rfl⟩
end
section
open Go
set_option maxHeartbeats 1000000
structure ZsX where
  s : ByteArray
def atN (t : ByteArray) : Nat → Int
  | 0 => 0
  | i + 1 => atN t i * 10 + (byteAt t i - 48)
structure AtOk (s : ByteArray) : Prop where
  lo : 2 ≤ s.size
  hi : s.size ≤ 9
  sg : byteAt s 0 = 43 ∨ byteAt s 0 = 45
  dig : ∀ i : Nat, i < (s.extract 1 s.size).size → 48 ≤ byteAt (s.extract 1 s.size) i ∧ byteAt (s.extract 1 s.size) i ≤ 57
def atVq (s : ByteArray) : Int := bif byteAt s 0 == 45 then 0 - atN (s.extract 1 s.size) (s.size - 1) else atN (s.extract 1 s.size) (s.size - 1)
abbrev aiC : Con where
  X := ZsX
  Y := Unit
  args x := [.string x.s]
  pre _ := []
  cond x := AtOk x.s
  rdc _ _ := True
  rel _ _ := True
  val x _ := .returned (.tuple #[.int .i64 (atVq x.s), .nilIface])
  post _ _ := []
structure AtS where
  i : Nat
  b : Nat
  c : Nat
def atSt (x : ZsX) (F : Atom) (d : AtS) : List Atom := [F, .obj d.b (.cells (sbRow (x.s.extract 1 x.s.size) d.c) 5 ((sbRow (x.s.extract 1 x.s.size) d.c).size, (sbRow (x.s.extract 1 x.s.size) d.c).size + 1))]
def aiInv (x : ZsX) (F : Atom) : Nat → Option Inv := fun
  | 0 => some { X := AtS, P := λd => d.i ≤ (x.s.extract 1 x.s.size).size ∧ (x.s.extract 1 x.s.size).size ≤ d.c, mu := λd => 10 - d.i, lv := λd => [(5, .string x.s), (6, .int .i64 (atN (x.s.extract 1 x.s.size) d.i)), (47, .slice (some ⟨d.b, 0, none⟩) (x.s.extract 1 x.s.size).size d.c), (48, .int .i64 (x.s.extract 1 x.s.size).size), (49, .int .i64 d.i)], st := λd => atSt x F d }
  | _ => none
def aiCut (x : ZsX) (F : Atom) : Nat → Option Inv := fun
  | 8 => some { X := Unit, P := λ_ => True, mu := λ_ => 0, lv := λ_ => [(0, .string (x.s.extract 1 x.s.size)), (5, .string x.s)], st := λ_ => [F] }
  | _ => none
theorem sbRow_get {s : ByteArray} {c i : Nat} (h : i < s.size) : (sbRow s c).toList[i]? = some (.int .u8 (byteAt s i)) := by
  have e1 : (sbRow s c).toList[i]? = (sbRow s c)[i]? := Array.getElem?_toList
  have hs : i < s.data.size := h
  rw [e1]
  unfold sbRow bytesRow
  rw [Array.getElem?_append_left (by rw [Array.size_map]; exact hs), Array.getElem?_map, Array.getElem?_eq_getElem hs]
  unfold byteAt
  rw [fo_tn, fo_gd, Array.getElem?_toList, Array.getElem?_eq_getElem hs] <;> rfl
def q170 (x : ZsX) := (0 : Int) ≤ (0 : Int) ∧ 0 < (x.s.size : Int)
abbrev q290 (x : ZsX) := byteAt x.s (0 : Int) == (45 : Int)
def q300 (x : ZsX) := (0 : Int) ≤ (1 : Int) ∧ 1 ≤ (x.s.size : Int) ∧ (x.s.size : Int) ≤ (x.s.size : Int)
abbrev q279 (x : ZsX) := decide ((↑(x.s.extract (Int.toNat (1 : Int)) (x.s.size : Int).toNat).size : Int) < 1)
abbrev q155 := fo_rt (tuple ⟨[fo_vi 0, fo_vf 239 (fo_vi 2)]⟩)
def T65 (e0 : Atom) (e1 : ZsX) (v0 : Value) (ss : St) := ∃ (z : Unit), True ∧ (v0 = fo_vs (e1.s.extract 1 e1.s.size) ∧ fo_vs e1.s = fo_vs e1.s ∧ True) ∧ Ent ss [(0, e0)]
abbrev q327 (x : ZsX) := fo_vs (x.s.extract (Int.toNat (1 : Int)) (x.s.size : Int).toNat)
def q84 (x : ZsX) (F : Atom) := q300 x ∧ Br (q279 x) (Done aiC x F q155 [(0, F)]) (T65 F x (q327 x) [(0, F)])
def T66 (oo : Oper) := fo_O5 oo (s2bC (5 : TypeId)) (λ_ => True) (λw1 w2 => w1.s.size ≤ w2.c)
def q201 (a : AtS) (x : ZsX) := a.i ≤ (x.s.extract 1 x.s.size).size ∧ (x.s.extract 1 x.s.size).size ≤ a.c
abbrev q221 (a : AtS) : Option Addr := some ⟨a.b, 0, none⟩
abbrev q320 (F : Atom) (f : SbY) (g : WdX) := [(0, F), (5000, fo_ob f.b (Obj.cells (sbRow g.s f.c) 5 ((sbRow g.s f.c).size, (sbRow g.s f.c).size + 1)))]
abbrev q38 (F : Atom) (a : AtS) (x : ZsX) := [(0, F), (1, fo_ob a.b (Obj.cells (sbRow (x.s.extract 1 x.s.size) a.c) 5 ((sbRow (x.s.extract 1 x.s.size) a.c).size, (sbRow (x.s.extract 1 x.s.size) a.c).size + 1)))]
def T67 (aa : Atom) (ad : Addr) (k0 : Int → Prop) := ∃ (z0 : Int), Look aa ad (fo_vc z0) ∧ k0 z0
theorem ai_vc (x : ZsX) (F : Atom) (hc : aiC.cond x) (hr : aiC.rdc x F) :
 fo_Bd (0 < (x.s.size : Int)) (fo_Bd ((x.s.size : Int) < 19) ((q170 x ∧ Br (q290 x) (q84 x F) (q170 x ∧ Br (byteAt x.s (0 : Int) == (43 : Int)) (q84 x F) (T65 F x (fo_vs x.s) [(0, F)]))) ∧ fo_vA λ(i : Unit) _ => True → T66 (opIn Tryz.f169 9 1) [fo_vs (x.s.extract 1 x.s.size)] (λg f => (∃(a : AtS), q201 a x ∧ (fo_vs x.s = fo_vs x.s ∧ fo_vi 0 = fo_vi (atN (x.s.extract 1 x.s.size) a.i) ∧ fo_vl (some ⟨f.b, 0, none⟩) g.s.size f.c = fo_vl (q221 a) (x.s.extract 1 x.s.size).size a.c ∧ fo_vi ↑g.s.size = fo_vi (↑(x.s.extract 1 x.s.size).size : Int) ∧ fo_vi 0 = fo_vi ↑a.i ∧ True) ∧ Ent (q320 F f g) (q38 F a x)) ∧ fo_vA λ(e : AtS) _ => q201 e x → fo_Bd ((e.i : Int) < (↑(x.s.extract 1 x.s.size).size : Int)) (T48 (opIn Tryz.f169 11 0) [fo_vl (q221 e) (x.s.extract 1 x.s.size).size e.c, fo_vi ↑e.i] (λc => T67 (fo_ob e.b (Obj.cells (sbRow (x.s.extract 1 x.s.size) e.c) 5 ((sbRow (x.s.extract 1 x.s.size) e.c).size, (sbRow (x.s.extract 1 x.s.size) e.c).size + 1))) ⟨c.b, c.o + c.n.toNat * 1, none⟩ (λb => fo_Bd (u8.wrap (b - 48) > 9) (Done aiC x F q155 (q38 F e x)) (fo_rI (atN (x.s.extract 1 x.s.size) e.i * 10) ∧ fo_rI (u8.wrap (b - 48)) ∧ fo_rI (atN (x.s.extract 1 x.s.size) e.i * 10 + u8.wrap (b - 48)) ∧ fo_rI ((e.i : Int) + 1) ∧ ∃(a : AtS), q201 a x ∧ (fo_vs x.s = fo_vs x.s ∧ fo_vi (atN (x.s.extract 1 x.s.size) e.i * 10 + u8.wrap (b - 48)) = fo_vi (atN (x.s.extract 1 x.s.size) a.i) ∧ fo_vl (q221 e) (x.s.extract 1 x.s.size).size e.c = fo_vl (q221 a) (x.s.extract 1 x.s.size).size a.c ∧ fo_vi (↑(x.s.extract 1 x.s.size).size : Int) = fo_vi (↑(x.s.extract 1 x.s.size).size : Int) ∧ fo_vi ((e.i : Int) + 1) = fo_vi ↑a.i ∧ True) ∧ Ent (q38 F e x) (q38 F a x) ∧ 10 - a.i < 10 - e.i)))) (q170 x ∧ Br (q290 x) (Done aiC x F (fo_rt (tuple ⟨[fo_vi (fo_wi ((0 : Int) - atN (x.s.extract 1 x.s.size) e.i)), nilIface]⟩)) (q38 F e x)) (Done aiC x F (fo_rt (tuple ⟨[fo_vi (atN (x.s.extract 1 x.s.size) e.i), nilIface]⟩)) (q38 F e x))))) False) False := by
  delta q170 q290 q300 q279 q155 T65 q327 q84 T66 q201 q221 q320 q38 q175 T48 T67 fo_rI fo_O5 fo_vi fo_vc fo_vs fo_vl fo_vf fo_ob fo_wi fo_Bd fo_rt fo_vA
  obtain ⟨s⟩ := x
  obtain ⟨h1, h2, h3, h4⟩ := (hc : AtOk s)
  dsimp only
  generalize ht : s.extract 1 s.size = t at *
  have hts : t.size = s.size - 1 := by rw [← ht, fo_se]; omega
  have P0 : Ent [(0, F)] [(0, F)] := Ent.pick [0] rfl rfl
  have hx : s.extract (Int.toNat 1) ((s.size : Nat) : Int).toNat = t := by rw [← ht] <;> rfl
  rw [hx]
  have rng : ∀ i, i ≤ t.size → 0 ≤ atN t i ∧ atN t i < 10 ^ i := by
    intro i
    induction i with
    | zero => intro _; exact ⟨fo_ir 0, by show (0 : Int) < 10 ^ 0; decide⟩
    | succ i ih =>
      intro hi
      obtain ⟨a, b⟩ := ih (by omega)
      have := h4 i (by omega)
      rw [atN, Int.pow_succ]
      omega
  dsimp only at h1 h2 h3
  refine br_decide (λ_ => br_decide (λ_ => ⟨⟨⟨fo_ir _, by omega⟩, br_intro (λq => ⟨⟨by decide, by omega, fo_ir _⟩, br_decide (λq1 => absurd q1 (by omega)) (λ_ => ⟨(), fo_tv, ⟨rfl, rfl, fo_tv⟩, P0⟩)⟩) (λq => ⟨⟨fo_ir _, by omega⟩, br_intro (λq2 => ⟨⟨by decide, by omega, fo_ir _⟩, br_decide (λq1 => absurd q1 (by omega)) (λ_ => ⟨(), fo_tv, ⟨rfl, rfl, fo_tv⟩, P0⟩)⟩) (λq2 => ?_)⟩)⟩, ?_⟩) (λq => (q (by omega)).elim)) (λq => (q (by omega)).elim)
  · rcases h3 with h | h
    · rw [h] at q2; exact absurd q2 (by decide)
    · rw [h] at q; exact absurd q (by decide)
  rintro _ js -
  refine ⟨s2b_ok rfl rfl rfl rfl, rfl, ⟨t⟩, rfl, rfl, fo_tv, fo_tv, λy hy => ⟨⟨⟨0, y.b, y.c⟩, ⟨fo_zl _, hy⟩, ⟨rfl, rfl, rfl, rfl, rfl, fo_tv⟩, Ent.pick [0, 5000] rfl rfl⟩, ?_⟩⟩
  rintro ⟨i, b, c⟩ js ⟨g1, g2⟩
  dsimp only at g1 g2 ⊢
  obtain ⟨r1, r2⟩ := rng i g1
  have r3 : (10 : Int) ^ i ≤ 100000000 := by
    have a : 10 ^ i ≤ 10 ^ 8 := fo_pp (by decide) (by omega)
    have b : (10 : Int) ^ i = ((10 ^ i : Nat) : Int) := by rw [Int.natCast_pow] <;> rfl
    have e : (10 : Nat) ^ 8 = 100000000 := by decide
    omega
  refine br_decide (λq => ⟨ixq_ok 1 rfl rfl rfl rfl, ⟨b, 0, t.size, c, i⟩, rfl, ⟨by dsimp only; omega, by dsimp only; omega⟩, byteAt t i, ?_, ?_⟩) (λq => ?_)
  · rw [show 0 + ((i : Nat) : Int).toNat * 1 = i by omega]
    exact Look.objc (vs := (sbRow t c).toList) (sbRow_get (by omega))
  · have hd := h4 i (by omega)
    rw [wrap_in (i := .u8) (n := byteAt t i - 48) ⟨by omega, by omega⟩]
    refine br_decide (λq2 => absurd q2 (by omega)) (λ_ => ⟨⟨by omega, by omega⟩, ⟨by omega, by omega⟩, ⟨by omega, by omega⟩, ⟨by omega, by omega⟩, ⟨i + 1, b, c⟩, ⟨by dsimp only; omega, g2⟩, ⟨rfl, rfl, rfl, rfl, ?_, fo_tv⟩, Ent.pick [0, 1] rfl rfl, by dsimp only; omega⟩)
    exact congrArg _ (by dsimp only; omega)
  · have hi : i = s.size - 1 := by omega
    subst hi
    refine ⟨⟨fo_ir _, by omega⟩, br_intro (λq => ?_) (λq => ?_)⟩
    · refine ⟨(), fo_tv, ?_, Ent.pick [0] rfl rfl⟩
      show _ = returned (.tuple #[.int .i64 (atVq s), .nilIface])
      unfold atVq
      rw [ht, q, fo_ct, wrap_in (i := .i64) (n := 0 - atN t (s.size - 1)) ⟨by omega, by omega⟩]
    · refine ⟨(), fo_tv, ?_, Ent.pick [0] rfl rfl⟩
      show _ = returned (.tuple #[.int .i64 (atVq s), .nilIface])
      unfold atVq
      rw [ht, q, fo_cf]
theorem ai_ok : fo_k 169 aiC := fo 77 Tryz.func169 (λ_ _ => [(9, 1, .o (s2bC 5) [] [5000]), (11, 0, .qo (ixQ 1)), (11, 1, .q [.ex 1 (.int .u8)]), (12, 1, .q []), (13, 1, .q [])]) [(20, 1, OH.q [])] aiInv aiCut fo_o [] ai_vc
theorem ao_vc (x : ZsX) (F : Atom) (hc : aiC.cond x) (hr : aiC.rdc x F) :
 fo_C1 169 aiC (λb => AtOk b.s) [fo_vs x.s] (λb a => Done aiC x F (fo_rt (tuple ⟨[fo_vi (atVq b.s), nilIface]⟩)) [(0, F)]) := by
  delta fo_C1 fo_vi fo_vs fo_rt
  exact ⟨ai_ok, rfl, ⟨x.s⟩, rfl, rfl, hc, fo_tv, λ_ _ => ⟨(), fo_tv, rfl, Ent.pick [0] rfl rfl⟩⟩
theorem ao_ok : fo_k 118 aiC := fo 18 Tryz.func118 (λ_ _ => [(1, 1, .c aiC [] [])]) [] fo_i fo_i fo_o [] ao_vc
end
end Go.Proofs.YtjdabjmjldiodaaGreatDoor
