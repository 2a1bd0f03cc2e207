/- A part of the proof that pennantlaw23.BasicHears answers true at every input. -/
import Derived.Test.YtjdabjmjldiodaaGreatDoorPHai
set_option linter.all false
namespace Go.Proofs.YtjdabjmjldiodaaGreatDoor
set_option maxRecDepth 100000
open Go.Value (int slice string bool pointer agg tuple func float iface nilIface)
open Go.IntKind (i64 u8 u64 i32 u32 u16 i8 i16)
open Go.FloatKind (f64)
open Go.Ending (returned panicked)
section
open Go
set_option maxHeartbeats 1000000
def sExt : ByteArray := ⟨#[101, 120, 116, 101, 114, 110, 97, 108]⟩
def sTyp : ByteArray := ⟨#[104, 116, 116, 112, 58, 47, 47, 119, 119, 119, 46, 119, 51, 46, 111, 114, 103, 47, 84, 82, 47, 115, 99, 120, 109, 108, 47, 35, 66, 97, 115, 105, 99, 72, 84, 84, 80, 69, 118, 101, 110, 116, 80, 114, 111, 99, 101, 115, 115, 111, 114]⟩
abbrev eNul : ByteArray := ⟨#[]⟩
def Hrd.p : Hrd → ByteArray
  | .no _ => eNul
  | .ok p _ _ => p
def Hrd.n : Hrd → ByteArray
  | .no _ => eNul
  | .ok _ n _ => n
def Hrd.k : Hrd → ByteArray
  | .no _ => eNul
  | .ok _ _ _ => sExt
def Hrd.t : Hrd → ByteArray
  | .no _ => eNul
  | .ok _ _ _ => sTyp
def Hrd.d : Hrd → ByteArray
  | .no _ => eNul
  | .ok _ _ d => d
def Hrd.s : Hrd → Nat
  | .no s => s
  | .ok _ _ _ => 200
abbrev hearC : Con where
  X := RqX
  Y := Unit
  args x := [.agg #[.string x.r.m, .string x.r.t, .string x.r.h, .string x.r.y, .string x.r.b]]
  pre _ := []
  cond x := x.r.ok ∧ x.r.b.size ≤ 262144
  rdc _ F := Gl F
  rel _ _ := True
  val x _ := .returned (.tuple #[.string (hearV x.r).p, .agg #[.string (hearV x.r).n, .string (hearV x.r).k, .string eNul, .string eNul, .string (hearV x.r).t, .string eNul, .string (hearV x.r).d], .int .i64 (hearV x.r).s])
  post _ _ := []
  rmono _ _ _ hs h := h.sub hs
def zEv : List Value := [.string eNul, .string eNul, .string eNul, .string eNul, .string eNul, .string eNul, .string eNul]
def evL (n d : ByteArray) : List Value := [.string n, .string sExt, .string eNul, .string eNul, .string sTyp, .string eNul, .string d]
structure HrS where
  b1 : Nat
  b3 : Nat
  b10 : Nat
  nm : ByteArray
  l : List Fld
  ro : Row
  i : Nat
  ow : Row
structure HrS.ok (d : HrS) (r : Req) : Prop where
  hm : (!bEq r.m sPost && !bEq r.m sGet) = false
  hl : flsV r = some d.l
  hn : nmV r d.l = some d.nm
  hr : IsRow 36 2 (fCs d.l) d.ro
  hz : d.l.length ≤ 64
  hi : d.i ≤ d.l.length
  hv : ((d.l.take d.i).all λf => okV f.1 && okV f.2) = true
  ho : IsRow 36 2 (fCs (othV (d.l.take d.i))) d.ow
def reqL (r : Req) : List Value := [.string r.m, .string r.t, .string r.h, .string r.y, .string r.b]
def hrSt (r : Req) (F : Atom) (d : HrS) : List Atom := [F, .cells d.b1 (reqL r) 45, .cells d.b3 zEv 51, .cells d.b10 (evL d.nm eNul) 51, d.ro.A, d.ow.A]
def hearInv (x : RqX) (F : Atom) : Nat → Option Inv := fun
  | 0 => some { X := HrS, P := λd => d.ok x.r, mu := λd => d.l.length - d.i, lv := λd => [(1, .pointer (some ⟨d.b1, 0, none⟩)), (3, .pointer (some ⟨d.b3, 0, none⟩)), (5, .string (cutA (tgV x.r) 63)), (9, .bool true), (10, .pointer (some ⟨d.b10, 0, none⟩)), (13, .slice d.ow.a d.ow.n d.ow.cap), (61, .slice d.ro.a d.ro.n d.ro.cap), (62, .int .i64 d.ro.n), (63, .int .i64 d.i)], st := hrSt x.r F }
  | _ => none
structure Hr0 where
  b1 : Nat
  b3 : Nat
def hearCut (x : RqX) (F : Atom) : Nat → Option Inv := fun
  | 3 => some { X := Hr0, P := λ_ => (!bEq x.r.m sPost && !bEq x.r.m sGet) = false, mu := λ_ => 0, lv := λd => [(1, .pointer (some ⟨d.b1, 0, none⟩)), (3, .pointer (some ⟨d.b3, 0, none⟩))], st := λd => [F, .cells d.b1 (reqL x.r) 45, .cells d.b3 zEv 51] }
  | 13 => some { X := HrS, P := λd => d.ok x.r ∧ d.i = 0 ∧ d.ow = nilRow, mu := λ_ => 0, lv := λd => [(1, .pointer (some ⟨d.b1, 0, none⟩)), (3, .pointer (some ⟨d.b3, 0, none⟩)), (5, .string (cutA (tgV x.r) 63)), (8, .slice d.ro.a d.ro.n d.ro.cap), (9, .bool true), (10, .pointer (some ⟨d.b10, 0, none⟩))], st := hrSt x.r F }
  | _ => none
theorem sdF_size (s : ByteArray) : ∀ (f i : Nat) (o v : ByteArray), i ≤ s.size → sdF s f i o = some v → v.size ≤ o.size + (s.size - i)
  | 0, i, o, v, _, h => by rw [sdF] at h; cases h
  | f + 1, i, o, v, hi, h => by
    rw [sdF] at h
    cases c0 : decide (i < s.size) with
    | false => rw [c0, fo_cf] at h; cases h; exact Nat.le_add_right _ _
    | true =>
      have hlt := fo_od1 c0
      rw [c0, fo_ct] at h
      cases c1 : (bt s i == 43) with
      | true =>
        rw [c1, fo_ct] at h
        have := sdF_size s f _ _ v (by omega) h
        rw [sz_app] at this; simp only [fo_l1] at this; omega
      | false =>
        rw [c1, fo_cf] at h
        cases c2 : (bt s i == 37) with
        | true =>
          rw [c2, fo_ct] at h
          cases c3 : decide (s.size ≤ i + 2) with
          | true => rw [c3, fo_ct] at h; cases h
          | false =>
            have c3 := fo_od0 c3
            rw [fo_df c3, fo_cf] at h
            cases c4 : (decide (sx (bt s (i + 1)) < 0) || decide (sx (bt s (i + 2)) < 0)) with
            | true => rw [c4, fo_ct] at h; cases h
            | false =>
              rw [c4, fo_cf] at h
              have := sdF_size s f _ _ v (by omega) h
              rw [sz_app] at this; simp only [fo_l1] at this; omega
        | false =>
          rw [c2, fo_cf] at h
          have := sdF_size s f _ _ v (by omega) h
          rw [sz_app] at this; simp only [fo_l1] at this; omega
theorem sdV_size {s v : ByteArray} (h : sdV s = some v) : v.size ≤ s.size := by
  have := sdF_size s _ 0 ⟨#[]⟩ v (fo_zl _) h
  exact fo_lt this (by show 0 + (s.size - 0) ≤ s.size; omega)
def FSz (l : List Fld) : Prop := ∀ f ∈ l, f.1.size ≤ 4096 ∧ f.2.size ≤ 4096
theorem fdL_size : ∀ (L : List ByteArray) (l r : List Fld), (∀ p ∈ L, p.size ≤ 4096) → FSz l → fdL L l = some r → FSz r
  | [], l, r, _, h, e => by rw [fdL] at e; cases e; exact h
  | p :: L, l, r, hp, h, e => by
    have hq := hp p fo_mc
    have hp' : ∀ q ∈ L, q.size ≤ 4096 := λq hq => hp q (fo_mm _ hq)
    rw [fdL] at e
    cases c : (p.size == 0) with
    | true => rw [c, fo_ct] at e; exact fdL_size L l r hp' h e
    | false =>
      rw [c, fo_cf] at e
      have ha : (cutA p 61).size ≤ 4096 := by unfold cutA; rw [fo_se]; omega
      have hb : (cutB p 61).size ≤ 4096 := by unfold cutB; rw [fo_se]; omega
      cases u : sdV (cutA p 61) with
      | none => rw [u] at e; cases e
      | some n =>
        cases v : sdV (cutB p 61) with
        | none => rw [u, v] at e; cases e
        | some w =>
          rw [u, v] at e
          refine fdL_size L _ r hp' (λf hf => ?_) e
          rcases List.mem_append.1 hf with hf | hf
          · exact h f hf
          · rw [List.mem_singleton.1 hf]
            exact ⟨fo_lt (sdV_size u) ha, fo_lt (sdV_size v) hb⟩
theorem fdV_size {s : ByteArray} {l : List Fld} (h : fdV s = some l) : FSz l := by
  unfold fdV at h
  cases c : decide (s.size > 4096) with
  | true => rw [c, fo_ct] at h; cases h
  | false =>
    rw [c, fo_cf] at h
    have c := fo_od0 c
    cases u : fdL (pcV s) [] with
    | none => rw [u] at h; cases h
    | some k =>
      rw [u] at h
      dsimp only at h
      cases d : decide (k.length > 32) with
      | true => rw [d, fo_ct] at h; cases h
      | false => rw [d, fo_cf] at h; cases h; exact fdL_size _ _ _ (λp hp => fo_lt (pcF_le _ _ _ p hp) (by omega)) (λ_ h => by cases h) u
theorem flsV_size {r : Req} {l : List Fld} (h : flsV r = some l) : FSz l := by
  unfold flsV at h
  cases u : fdV (cutB (tgV r) 63) with
  | none => rw [u] at h; cases h
  | some a =>
    rw [u] at h
    dsimp only at h
    cases c : frmV r with
    | false => rw [c, fo_cf] at h; cases h; exact fdV_size u
    | true =>
      rw [c, fo_ct] at h
      cases v : fdV r.b with
      | none => rw [v] at h; cases h
      | some m =>
        rw [v] at h
        cases h
        intro f hf
        rcases List.mem_append.1 hf with hf | hf
        · exact fdV_size u f hf
        · exact fdV_size v f hf
theorem fndV_mem {n v : ByteArray} : ∀ {l : List Fld}, fndV n l = some v → ∃ f ∈ l, f.2 = v
  | [], h => by cases h
  | (k, u) :: r, h => by
    rw [fndV] at h
    cases c : (k.toList == n.toList) with
    | true => rw [c, fo_ct] at h; cases h; exact ⟨_, fo_mc, rfl⟩
    | false =>
      rw [c, fo_cf] at h
      obtain ⟨f, h1, h2⟩ := fndV_mem h
      exact ⟨f, fo_mm _ h1, h2⟩
theorem runV_congr {p q : Nat → Bool} {s : ByteArray} (h : ∀ c, c < 256 → p c = q c) : ∀ f i, runV s p f i = runV s q f i := by
  intro f
  induction f with
  | zero => intro i; rfl
  | succ f ih => intro i; rw [runV, runV, h _ (bt_lt' s i), ih]
theorem hasV_blk (n : ByteArray) : hasV n ⟨#[9, 10, 13, 32]⟩ = decide (run1 n (λb => !blk4 b) 0 < n.size) := by
  unfold hasV run1
  rw [runV_congr (q := λb => !blk4 b) (λc hc => ?_)]
  have : ∀ d : Fin 256, (!inS' ⟨#[9, 10, 13, 32]⟩ d.val) = !blk4 d.val := by decide +kernel
  exact this ⟨c, hc⟩
theorem tab4 : (⟨#[9, 10, 13, 32]⟩ : ByteArray).size ≤ 1048576 ∧ 2 ≤ (⟨#[9, 10, 13, 32]⟩ : ByteArray).size := by decide
theorem asc_blk : asc ⟨#[9, 10, 13, 32]⟩ := by
  unfold asc
  decide
theorem hear_405 {r : Req} (h : (!bEq r.m sPost && !bEq r.m sGet) = true) : hearV r = .no 405 := by unfold hearV; rw [h] <;> rfl
theorem hear_nol {r : Req} (h : (!bEq r.m sPost && !bEq r.m sGet) = false) (h1 : flsV r = none) : hearV r = .no 400 := by unfold hearV; rw [h, fo_cf, h1]
theorem hear_non {r : Req} {l : List Fld} (h : (!bEq r.m sPost && !bEq r.m sGet) = false) (h1 : flsV r = some l) (h2 : nmV r l = none) : hearV r = .no 400 := by
  unfold hearV; rw [h, fo_cf, h1]; dsimp only; rw [h2]
theorem hear_nou {r : Req} {d : HrS} (h : d.ok r) (h1 : (d.l.all λf => okV f.1 && okV f.2) = false) : hearV r = .no 400 := by
  unfold hearV; rw [h.hm, fo_cf, h.hl]; dsimp only; rw [h.hn]; dsimp only; rw [h1] <;> rfl
theorem hear_dat {r : Req} {d : HrS} (h : d.ok r) (h1 : (d.l.all λf => okV f.1 && okV f.2) = true) : hearV r = (match datV r d.l with | .inr _ => .no 400 | .inl none => .no 413 | .inl (some e) => .ok (cutA (tgV r) 63) d.nm e) := by
  unfold hearV; rw [h.hm, fo_cf, h.hl]; dsimp only; rw [h.hn]; dsimp only; rw [h1] <;> rfl
theorem all_at {l : List Fld} {i : Nat} {f : Fld} (h : l[i]? = some f) (hb : (okV f.1 && okV f.2) = false) : (l.all λf => okV f.1 && okV f.2) = false := by
  rw [Bool.eq_false_iff]
  intro ha
  have := List.all_eq_true.1 ha f (fo_mg h)
  rw [hb] at this
  cases this
theorem all_take {l : List Fld} {i : Nat} {f : Fld} (h : l[i]? = some f) (h1 : ((l.take i).all λf => okV f.1 && okV f.2) = true) (hb : (okV f.1 && okV f.2) = true) : ((l.take (i + 1)).all λf => okV f.1 && okV f.2) = true := by
  rw [List.take_succ, h, Option.toList_some, List.all_append, h1]
  show ((okV f.1 && okV f.2) && true) = true
  rw [hb] <;> rfl
theorem oth_take {l : List Fld} {i : Nat} {f : Fld} (h : l[i]? = some f) : othV (l.take (i + 1)) = othV (l.take i) ++ (bif bEq f.1 sName then [] else [f]) := by
  unfold othV
  rw [List.take_succ, h, Option.toList_some, List.filter_append]
  congr 1
  rw [List.filter_cons]
  cases bEq f.1 sName <;> rfl
abbrev at5 (j : Nat) : List LH := [.aq j, .aq j, .aq j, .aq j, .aq j]
abbrev at7 (j : Nat) : List LH := [.aq j, .aq j, .aq j, .aq j, .aq j, .aq j, .aq j]
abbrev q1 : List Value := [fo_vs ⟨#[]⟩, fo_vs ⟨#[]⟩, fo_vs ⟨#[]⟩, fo_vs ⟨#[]⟩, fo_vs ⟨#[]⟩, fo_vs ⟨#[]⟩, fo_vs ⟨#[]⟩]
abbrev q312 := fo_rt (tuple ⟨[fo_vs ⟨#[]⟩, agg ⟨q1⟩, fo_vi 405]⟩)
abbrev q251 (e0 : RqX) := !bEq e0.r.m sPost && !bEq e0.r.m sGet
abbrev q4 : List Value := [fo_vs eNul, fo_vs eNul, fo_vs eNul, fo_vs eNul, fo_vs eNul, fo_vs eNul, fo_vs eNul]
abbrev q100 (e1 : Atom) (z : Hr0) (e0 : RqX) := [(0, e1), (1, fo_cl z.b1 (q0 e0) 45), (2, fo_cl z.b3 q4 51)]
def T84 (e0 : RqX) (e1 : Atom) (v0 v1 : Value) (ss : St) := ∃ (z : Hr0), (q251 e0) = false ∧ (v0 = fo_vp (some ⟨z.b1, 0, none⟩) ∧ v1 = fo_vp (some ⟨z.b3, 0, none⟩) ∧ True) ∧ Ent ss (q100 e1 z e0)
def q113 (x : RqX) (F : Atom) (B A : Nat) := T84 x F (q263 B) (q263 A) [(0, F), (1, fo_cl B (q0 x) 45), (2, fo_cl A q1 51)]
abbrev q38 := fo_rt (tuple ⟨[fo_vs ⟨#[]⟩, agg ⟨q1⟩, fo_vi 400]⟩)
abbrev q6 (x : RqX) : List Value := [fo_vs ((ByteArray.mk #[72, 84, 84, 80, 46]) ++ x.r.m), fo_vs ⟨#[101, 120, 116, 101, 114, 110, 97, 108]⟩, fo_vs ⟨#[]⟩, fo_vs ⟨#[]⟩, fo_vs ⟨#[104, 116, 116, 112, 58, 47, 47, 119, 119, 119, 46, 119, 51, 46, 111, 114, 103, 47, 84, 82, 47, 115, 99, 120, 109, 108, 47, 35, 66, 97, 115, 105, 99, 72, 84, 84, 80, 69, 118, 101, 110, 116, 80, 114, 111, 99, 101, 115, 115, 111, 114]⟩, fo_vs ⟨#[]⟩, fo_vs ⟨#[]⟩]
def q50 (z : Hr0) (x : RqX) (F : Atom) (q : Nat) (r : FoY) := Same ⟨z.b3, 0, none⟩ z.b3 ∧ Same ⟨z.b3, 1, none⟩ z.b3 ∧ Same ⟨z.b3, 2, none⟩ z.b3 ∧ Same ⟨z.b3, 3, none⟩ z.b3 ∧ Same ⟨z.b3, 4, none⟩ z.b3 ∧ Same ⟨z.b3, 5, none⟩ z.b3 ∧ Same ⟨z.b3, 6, none⟩ z.b3 ∧ Same ⟨z.b3, 0, none⟩ z.b3 ∧ Same ⟨z.b3, 1, none⟩ z.b3 ∧ Same ⟨z.b3, 2, none⟩ z.b3 ∧ Same ⟨z.b3, 3, none⟩ z.b3 ∧ Same ⟨z.b3, 4, none⟩ z.b3 ∧ Same ⟨z.b3, 5, none⟩ z.b3 ∧ Same ⟨z.b3, 6, none⟩ z.b3 ∧ Done hearC x F q38 [(0, F), (1, fo_cl z.b1 (q0 x) 45), (2, fo_cl z.b3 q1 51), (3, fo_cl q (q6 x) 51), (4, r.y.r.A)]
abbrev q306 (a : HrS) : Option Addr := some ⟨a.b1, 0, none⟩
abbrev q308 (a : HrS) : Option Addr := some ⟨a.b3, 0, none⟩
abbrev q290 (a : HrS) : Option Addr := some ⟨a.b10, 0, none⟩
def q104 (z : Hr0) (a : HrS) (u : CtX) (x : RqX) (r : FoY) (q : Nat) := fo_vp (some ⟨z.b1, 0, none⟩) = fo_vp (q306 a) ∧ fo_vp (some ⟨z.b3, 0, none⟩) = fo_vp (q308 a) ∧ fo_vs (cutA u.s u.c) = fo_vs (cutA (tgV x.r) 63) ∧ fo_vl r.y.r.a r.y.r.n r.y.r.cap = fo_vl a.ro.a a.ro.n a.ro.cap ∧ fo_vb r.ok = fo_vb true ∧ fo_vp (q13 q) = fo_vp (q290 a) ∧ True
abbrev q74 (e : FnX) : List Value := [fo_vs ((fndV e.nm e.l).getD q34), fo_vs ⟨#[101, 120, 116, 101, 114, 110, 97, 108]⟩, fo_vs ⟨#[]⟩, fo_vs ⟨#[]⟩, fo_vs ⟨#[104, 116, 116, 112, 58, 47, 47, 119, 119, 119, 46, 119, 51, 46, 111, 114, 103, 47, 84, 82, 47, 115, 99, 120, 109, 108, 47, 35, 66, 97, 115, 105, 99, 72, 84, 84, 80, 69, 118, 101, 110, 116, 80, 114, 111, 99, 101, 115, 115, 111, 114]⟩, fo_vs ⟨#[]⟩, fo_vs ⟨#[]⟩]
abbrev q9 (z : HrS) : List Value := [fo_vs z.nm, fo_vs sExt, fo_vs eNul, fo_vs eNul, fo_vs sTyp, fo_vs eNul, fo_vs eNul]
abbrev q32 (e1 : Atom) (z : HrS) (e0 : RqX) := [(0, e1), (1, fo_cl z.b1 (q0 e0) 45), (2, fo_cl z.b3 q4 51), (3, fo_cl z.b10 (q9 z) 51), (4, z.ro.A), (5, z.ow.A)]
def T85 := fo_C2 47 vsC (λw0 => w0.s.size ≤ 1048576) (λ_ => Utf)
abbrev q126 (F : Atom) (n : HrS) (x : RqX) (i : Nat) (k j : ByteArray) := [(0, F), (1, fo_cl n.b1 (q0 x) 45), (2, fo_cl n.b3 q4 51), (3, fo_cl n.b10 (q9 n) 51), (4, n.ro.A), (5, n.ow.A), (17020, fo_cl i (q253 k j) 36)]
def q152 (n : HrS) (x : RqX) (F : Atom) (i : Nat) (k j : ByteArray) := fo_s5 n.b3 (fo_sm n.b3 5 ∧ fo_sm n.b3 6 ∧ fo_s5 n.b3 (fo_sm n.b3 5 ∧ fo_sm n.b3 6 ∧ Done hearC x F q38 [(0, F), (1, fo_cl n.b1 (q0 x) 45), (2, fo_cl n.b3 q1 51), (3, fo_cl n.b10 (q9 n) 51), (4, n.ro.A), (5, n.ow.A), (17020, fo_cl i (q253 k j) 36)]))
abbrev q286 (k : ByteArray) := !k.toList == (ByteArray.mk #[95, 115, 99, 120, 109, 108, 101, 118, 101, 110, 116, 110, 97, 109, 101]).toList
def T86 (e0 : RqX) (e1 : Atom) (v0 v1 v2 v3 v4 v5 v6 : Value) (ss : St) (mm : Nat) := ∃ (z : HrS), z.ok e0.r ∧ (v0 = fo_vp (q306 z) ∧ v1 = fo_vp (q308 z) ∧ fo_vs (cutA (tgV e0.r) 63) = fo_vs (cutA (tgV e0.r) 63) ∧ fo_vb true = fo_vb true ∧ v2 = fo_vp (q290 z) ∧ v3 = fo_vl z.ow.a z.ow.n z.ow.cap ∧ v4 = fo_vl z.ro.a z.ro.n z.ro.cap ∧ v5 = fo_vi ↑z.ro.n ∧ v6 = fo_vi ↑z.i ∧ True) ∧ Ent ss (q32 e1 z e0) ∧ z.l.length - z.i < mm
abbrev q145 := fo_rt (tuple ⟨[fo_vs ⟨#[]⟩, agg ⟨q1⟩, fo_vi 413]⟩)
abbrev q93 (n : HrS) (b : ObjX) : List Value := [fo_vs n.nm, fo_vs sExt, fo_vs eNul, fo_vs eNul, fo_vs sTyp, fo_vs eNul, fo_vs ((jsV (jobV b.l)).getD q34)]
abbrev q196 (F : Atom) (n : HrS) (x : RqX) (e : Nat) := fo_aR [(0, F), (1, fo_cl n.b1 (q0 x) 45), (2, fo_cl n.b3 q4 51), (3, fo_cl n.b10 (q9 n) 51), (4, n.ro.A), (5, n.ow.A), (700, fo_cl e [fo_vl none 0 0, fo_vi 0] 60)] []
abbrev q102 (n : HrS) (b : Tg) : List Value := [fo_vs n.nm, fo_vs sExt, fo_vs eNul, fo_vs eNul, fo_vs sTyp, fo_vs eNul, fo_vs ((jsV b.q).getD q34)]
def q77 (n : HrS) (x : RqX) (F : Atom) := true = true ∧ fo_s5 n.b10 (fo_sm n.b10 5 ∧ fo_sm n.b10 6 ∧ fo_s5 n.b3 (fo_sm n.b3 5 ∧ fo_sm n.b3 6 ∧ fo_s5 n.b3 (fo_sm n.b3 5 ∧ fo_sm n.b3 6 ∧ Done hearC x F (fo_rt (tuple ⟨[fo_vs (cutA (tgV x.r) 63), agg ⟨q9 n⟩, fo_vi 200]⟩)) [(0, F), (1, fo_cl n.b1 (q0 x) 45), (2, fo_cl n.b3 (q9 n) 51), (3, fo_cl n.b10 (q9 n) 51), (4, n.ro.A), (5, n.ow.A)])))
theorem hear_vc (x : RqX) (F : Atom) (hc : hearC.cond x) (hr : hearC.rdc x F) :
 ∀(B A : Nat), (fo_sm B 0 ∧ Br (!x.r.m.toList == q319.toList) (fo_sm B 0 ∧ Br (!x.r.m.toList == (ByteArray.mk #[71, 69, 84]).toList) (fo_s5 A (fo_sm A 5 ∧ fo_sm A 6 ∧ fo_s5 A (fo_sm A 5 ∧ fo_sm A 6 ∧ Done hearC x F q312 [(0, F), (1, fo_cl B (q0 x) 45), (2, fo_cl A q1 51)]))) (q113 x F B A)) (q113 x F B A)) ∧ fo_vA λ(z : Hr0) _ => (q251 x) = false → fo_sm z.b1 1 ∧ fo_C1 43 tpC (λw => w.c < 256) [fo_vs x.r.t, fo_vs ⟨#[47]⟩] (λw v => T27 [fo_vs (tpV w.s w.c), fo_vs ⟨#[63]⟩] (fo_aR (q100 F z x) []) (λu t => fo_s5 z.b1 (fo_C4 44 foC (λs => s.r.ok) (λ_ => Gl) (λs r => (r.ok = true ∧ flsV s.r = some r.y.l ∧ IsRow 36 2 (fCs r.y.l) r.y.r ∧ r.y.l.length ≤ 64 ∨ r.ok = false ∧ flsV s.r = none ∧ r.y.r = nilRow)) [agg ⟨q0 x⟩, fo_vs (cutB u.s u.c)] ([] : List Atom) (fo_aR (q100 F z x) []) (λs r => Br (!r.ok) (fo_s5 z.b3 (fo_sm z.b3 5 ∧ fo_sm z.b3 6 ∧ fo_s5 z.b3 (fo_sm z.b3 5 ∧ fo_sm z.b3 6 ∧ Done hearC x F q38 [(0, F), (1, fo_cl z.b1 (q0 x) 45), (2, fo_cl z.b3 q1 51), (4, r.y.r.A)]))) (fo_sm z.b1 0 ∧ 5 + x.r.m.size ≤ 9223372036854775807 ∧ ∀(q : Nat), fo_s5 q (fo_sm q 5 ∧ fo_sm q 6 ∧ fo_C2 45 fdC (λe => IsSrc 2 (fCs e.l) e.a e.n ∧ e.l.length ≤ 1048576) (λe rr => Srcd rr e.a (fCs e.l)) [fo_vl r.y.r.a r.y.r.n r.y.r.cap, fo_vs ⟨#[95, 115, 99, 120, 109, 108, 101, 118, 101, 110, 116, 110, 97, 109, 101]⟩] (fo_aR [(0, F), (1, fo_cl z.b1 (q0 x) 45), (2, fo_cl z.b3 q4 51), (3, fo_cl q (q6 x) 51), (4, r.y.r.A)] []) (λe d => Br (fndV e.nm e.l).isSome (Br (((fndV e.nm e.l).getD q34).toList == q34.toList) (q50 z x F q r) (fo_k 46 caC ∧ true = true ∧ ∃ (c : T2X), [fo_vs ((fndV e.nm e.l).getD q34), fo_vs ⟨#[9, 10, 13, 32]⟩] = [fo_vs c.s, fo_vs c.t] ∧ ([] : List Atom) = [] ∧ q254 c ∧ True ∧ ∀ (b : Unit), True → Br (hasV c.s c.t) (q50 z x F q r) (Same ⟨q, 0, none⟩ q ∧ ∃ (a : HrS), (a.ok x.r ∧ a.i = 0 ∧ a.ow = nilRow) ∧ q104 z a u x r q ∧ Ent [(0, F), (1, fo_cl z.b1 (q0 x) 45), (2, fo_cl z.b3 q4 51), (3, fo_cl q (q74 e) 51), (4, r.y.r.A)] (q32 F a x)))) (∃ (a : HrS), (a.ok x.r ∧ a.i = 0 ∧ a.ow = nilRow) ∧ q104 z a u x r q ∧ Ent [(0, F), (1, fo_cl z.b1 (q0 x) 45), (2, fo_cl z.b3 q4 51), (3, fo_cl q (q6 x) 51), (4, r.y.r.A)] (q32 F a x))) ∧ fo_vA λ(p : HrS) _ => (p.ok x.r ∧ p.i = 0 ∧ p.ow = nilRow) → (∃(a : HrS), a.ok x.r ∧ (fo_vp (q306 p) = fo_vp (q306 a) ∧ fo_vp (q308 p) = fo_vp (q308 a) ∧ fo_vs (cutA (tgV x.r) 63) = fo_vs (cutA (tgV x.r) 63) ∧ fo_vb true = fo_vb true ∧ fo_vp (q290 p) = fo_vp (q290 a) ∧ fo_vl none 0 0 = fo_vl a.ow.a a.ow.n a.ow.cap ∧ fo_vl p.ro.a p.ro.n p.ro.cap = fo_vl a.ro.a a.ro.n a.ro.cap ∧ fo_vi ↑p.ro.n = fo_vi ↑a.ro.n ∧ fo_vi 0 = fo_vi ↑a.i ∧ True) ∧ Ent (q32 F p x) (q32 F a x)) ∧ fo_vA λ(n : HrS) _ => n.ok x.r → fo_Bd ((n.i : Int) < (n.ro.n : Int)) (T30 (opIn Tryz.f15 16 0) [fo_vl n.ro.a n.ro.n n.ro.cap, fo_vi ↑n.i] (λl => T25 n.ro.A ⟨l.b, l.o + l.n.toNat * 2, none⟩ (λk => T25 n.ro.A ⟨l.b, l.o + l.n.toNat * 2 + 1, none⟩ (λj => ∀(i : Nat), fo_sm i 0 ∧ fo_sm i 1 ∧ fo_sm i 0 ∧ T85 [fo_vs k] (fo_aR (q126 F n x i k j) []) (λh g => Br (!okV h.s) (q152 n x F i k j) (fo_sm i 1 ∧ T85 [fo_vs j] (fo_aR (q126 F n x i k j) []) (λf e => Br (!okV f.s) (q152 n x F i k j) (fo_sm i 0 ∧ Br (q286 k) (fo_sm i 0 ∧ fo_sm i 1 ∧ ∀(d : Nat), T29 (opIn Tryz.f15 20 3) [fo_vl n.ow.a n.ow.n n.ow.cap, fo_vl (q13 d) 1 1] [n.ow.A] (fo_aR [(0, F), (1, fo_cl n.b1 (q0 x) 45), (2, fo_cl n.b3 q4 51), (3, fo_cl n.b10 (q9 n) 51), (4, n.ro.A), (5, n.ow.A), (17020, fo_cl i (q253 k j) 36), (21020, fo_cl d (q253 k j) 36)] [5]) (λc b => fo_rI ((n.i : Int) + 1) ∧ T86 x F (fo_vp (q306 n)) (fo_vp (q308 n)) (fo_vp (q290 n)) (q332 b) (fo_vl n.ro.a n.ro.n n.ro.cap) (fo_vi ↑n.ro.n) (fo_vi ((n.i : Int) + 1)) [(0, F), (1, fo_cl n.b1 (q0 x) 45), (2, fo_cl n.b3 q4 51), (3, fo_cl n.b10 (q9 n) 51), (4, n.ro.A), (5, b.A), (17020, fo_cl i (q253 k j) 36), (21020, fo_cl d (q253 k j) 36)] (n.l.length - n.i))) (fo_rI ((n.i : Int) + 1) ∧ T86 x F (fo_vp (q306 n)) (fo_vp (q308 n)) (fo_vp (q290 n)) (fo_vl n.ow.a n.ow.n n.ow.cap) (fo_vl n.ro.a n.ro.n n.ro.cap) (fo_vi ↑n.ro.n) (fo_vi ((n.i : Int) + 1)) (q126 F n x i k j) (n.l.length - n.i)))))))))) (fo_Bd ((n.ow.n : Int) > 0) (fo_C2 48 bobC (λb => (IsSrc 2 (fCs b.l) b.a b.n ∧ b.l.length ≤ 64 ∧ ∀(a : Fld), a ∈ b.l → a.fst.size ≤ 4096 ∧ a.snd.size ≤ 4096)) (λb rr => Srcd rr b.a (fCs b.l) ∧ Utf rr) [fo_vl n.ow.a n.ow.n n.ow.cap] (fo_aR (q32 F n x) []) (λb a => fo_sm n.b10 6 ∧ Br (!(jsV (jobV b.l)).isSome) (fo_s5 n.b3 (fo_sm n.b3 5 ∧ fo_sm n.b3 6 ∧ fo_s5 n.b3 (fo_sm n.b3 5 ∧ fo_sm n.b3 6 ∧ Done hearC x F q145 [(0, F), (1, fo_cl n.b1 (q0 x) 45), (2, fo_cl n.b3 q1 51), (3, fo_cl n.b10 (q93 n b) 51), (4, n.ro.A), (5, n.ow.A)]))) (true = true ∧ fo_s5 n.b10 (fo_sm n.b10 5 ∧ fo_sm n.b10 6 ∧ fo_s5 n.b3 (fo_sm n.b3 5 ∧ fo_sm n.b3 6 ∧ fo_s5 n.b3 (fo_sm n.b3 5 ∧ fo_sm n.b3 6 ∧ Done hearC x F (fo_rt (tuple ⟨[fo_vs (cutA (tgV x.r) 63), agg ⟨q93 n b⟩, fo_vi 200]⟩)) [(0, F), (1, fo_cl n.b1 (q0 x) 45), (2, fo_cl n.b3 (q93 n b) 51), (3, fo_cl n.b10 (q93 n b) 51), (4, n.ro.A), (5, n.ow.A)])))))) (fo_sm n.b1 4 ∧ Br (!x.r.b.toList == q34.toList) (fo_s5 n.b1 (T33 (q373 x) (fo_aR (q32 F n x) []) (λj i => Br (!frmV j.r) (fo_sm n.b1 4 ∧ T85 [fo_vs x.r.b] (fo_aR (q32 F n x) []) (λh g => Br (!okV h.s) (fo_s5 n.b3 (fo_sm n.b3 5 ∧ fo_sm n.b3 6 ∧ fo_s5 n.b3 (fo_sm n.b3 5 ∧ fo_sm n.b3 6 ∧ Done hearC x F q38 [(0, F), (1, fo_cl n.b1 (q0 x) 45), (2, fo_cl n.b3 q1 51), (3, fo_cl n.b10 (q9 n) 51), (4, n.ro.A), (5, n.ow.A)]))) (true = true ∧ fo_C0 6 nwzC [fo_vi 0] (λf e => fo_sm n.b1 4 ∧ T82 [fo_vs x.r.b] (q196 F n x e) (λd c => fo_C2 50 tdC (λb => b.good) (λb rr => Utf rr ∧ b.Rd rr ∧ b.good) [fo_vp (q13 e), agg ⟨q130 d⟩] (q196 F n x e) (λb a => fo_sm n.b10 6 ∧ Br (!(jsV b.q).isSome) (fo_s5 n.b3 (fo_sm n.b3 5 ∧ fo_sm n.b3 6 ∧ fo_s5 n.b3 (fo_sm n.b3 5 ∧ fo_sm n.b3 6 ∧ Done hearC x F q145 [(0, F), (1, fo_cl n.b1 (q0 x) 45), (2, fo_cl n.b3 q1 51), (3, fo_cl n.b10 (q102 n b) 51), (4, n.ro.A), (5, n.ow.A), (700, fo_cl e [fo_vl none 0 0, fo_vi 0] 60)]))) (true = true ∧ fo_s5 n.b10 (fo_sm n.b10 5 ∧ fo_sm n.b10 6 ∧ fo_s5 n.b3 (fo_sm n.b3 5 ∧ fo_sm n.b3 6 ∧ fo_s5 n.b3 (fo_sm n.b3 5 ∧ fo_sm n.b3 6 ∧ Done hearC x F (fo_rt (tuple ⟨[fo_vs (cutA (tgV x.r) 63), agg ⟨q102 n b⟩, fo_vi 200]⟩)) [(0, F), (1, fo_cl n.b1 (q0 x) 45), (2, fo_cl n.b3 (q102 n b) 51), (3, fo_cl n.b10 (q102 n b) 51), (4, n.ro.A), (5, n.ow.A), (700, fo_cl e [fo_vl none 0 0, fo_vi 0] 60)])))))))))) (q77 n x F)))) (q77 n x F))))))))) := by
  delta q319 q1 q312 q0 q251 q4 q100 T84 q13 q263 q113 T27 q38 q6 q34 q50 q254 q306 q308 q290 q104 q74 q9 q32 q116 T30 T25 T85 q253 q126 q152 q286 q258 q247 q114 T29 T86 q332 q145 q93 T33 q373 q223 T82 q196 q130 q102 q77 fo_aR fo_sm fo_rI fo_s5 fo_C0 fo_C1 fo_C2 fo_C4 fo_O4 fo_vi fo_vs fo_vb fo_vp fo_vl fo_cl fo_Bd fo_rt fo_vA
  obtain ⟨r⟩ := x
  obtain ⟨hc, hbs⟩ := hc
  have hc : r.ok := hc
  have hbs : r.b.size ≤ 262144 := hbs
  have hr : Gl F := hr
  have hu := hr.utf
  dsimp only
  have no : ∀ (S : St) (s : Nat), hearV r = .no s → Ent S (ofL [F]) → Done hearC ⟨r⟩ F (returned (tuple #[.string ⟨#[]⟩, .agg #[.string ⟨#[]⟩, .string ⟨#[]⟩, .string ⟨#[]⟩, .string ⟨#[]⟩, .string ⟨#[]⟩, .string ⟨#[]⟩, .string ⟨#[]⟩], .int .i64 s])) S := λS s h1 h2 => ⟨(), fo_tv, by show _ = returned _; dsimp only; rw [h1] <;> rfl, h2⟩
  have yes : ∀ (S : St) (p n d : ByteArray), hearV r = .ok p n d → Ent S (ofL [F]) → Done hearC ⟨r⟩ F (returned (tuple #[.string p, .agg #[.string n, .string sExt, .string eNul, .string eNul, .string sTyp, .string eNul, .string d], .int .i64 200])) S := λS p n d h1 h2 => ⟨(), fo_tv, by show _ = returned _; dsimp only; rw [h1] <;> rfl, h2⟩
  intro b1 b3
  refine ⟨⟨⟨rfl, rfl⟩, br_intro (λq1 => ⟨⟨rfl, rfl⟩, br_intro (λq2 => ?_) (λq2 => ⟨⟨b1, b3⟩, ?_, ⟨rfl, rfl, fo_tv⟩, Ent.pick [0, 1, 2] rfl rfl⟩)⟩) (λq1 => ⟨⟨b1, b3⟩, ?_, ⟨rfl, rfl, fo_tv⟩, Ent.pick [0, 1, 2] rfl rfl⟩)⟩, ?_⟩
  · have q1 : (!bEq r.m sPost) = true := q1
    have q2 : (!bEq r.m sGet) = true := q2
    repeat refine ⟨⟨rfl, rfl⟩, ?_⟩
    exact no _ 405 (hear_405 (by rw [q1, q2] <;> rfl)) (Ent.pick [0] rfl rfl)
  · have q2 : (!bEq r.m sGet) = false := q2
    show (!bEq r.m sPost && !bEq r.m sGet) = false
    rw [q2, fo_baf]
  · have q1 : (!bEq r.m sPost) = false := q1
    show (!bEq r.m sPost && !bEq r.m sGet) = false
    rw [q1, fo_fba]
  rintro ⟨b1, b3⟩ js hm
  dsimp only at hm ⊢
  have htg : (tgV r).size ≤ r.t.size := by
    unfold tgV
    cases (decide (r.t.size > 0) && bt r.t 0 == 47)
    · exact fo_nr _
    · rw [fo_ct, fo_se]; omega
  refine ⟨⟨rfl, rfl⟩, tp_ok, rfl, ⟨r.t, 47⟩, rfl, rfl, (by decide : 47 < 256), fo_tv, λ_ _ => ⟨ct_ok, rfl, ⟨tgV r, 63⟩, rfl, rfl, ⟨fo_lt htg hc.2.1, (by decide : 63 < 256)⟩, Gl.rest (j := 0) (by simp) hr, λ_ _ => ⟨⟨rfl, rfl⟩, ⟨rfl, rfl⟩, ⟨rfl, rfl⟩, ⟨rfl, rfl⟩, ⟨rfl, rfl⟩, flo_ok, rfl, ⟨r⟩, rfl, rfl, hc, Gl.rest (j := 0) (by simp) hr, ?_⟩⟩⟩
  rintro ⟨⟨l, ro⟩, ok⟩ hy
  dsimp only at hy ⊢
  rcases hy with ⟨rfl, h1, h2, h3⟩ | ⟨rfl, h1, _⟩
  rotate_left
  · refine br_intro (λ_ => ?_) (λq => by cases q)
    repeat refine ⟨⟨rfl, rfl⟩, ?_⟩
    exact no _ 400 (hear_nol hm h1) (Ent.pick [0] rfl rfl)
  refine br_intro (λq => by cases q) (λ_ => ⟨⟨rfl, rfl⟩, by have := hc.1; omega, λb10 => ?_⟩)
  have hnm : nmV r l = (match fndV sName l with
    | some n => bif decide (n.size = 0) || decide (run1 n (λb => !blk4 b) 0 < n.size) then none else some n
    | none => some (sHttp ++ r.m)) := rfl
  repeat refine ⟨⟨rfl, rfl⟩, ?_⟩
  refine ⟨⟨fd_ok, rfl, ⟨ro.a, ro.n, ro.cap, l, sName⟩, rfl, rfl, ⟨h2.src, by dsimp only; omega⟩, row_srcd 4 (by simp) rfl h2, λ_ _ => ?_⟩, ?_⟩
  ·
    dsimp only
    revert hnm
    have hmem := @fndV_mem sName
    generalize hf : fndV sName l = o
    intro hnm
    cases o with
    | none =>
      refine br_intro (λq => by cases q) (λ_ => ⟨⟨b1, b3, b10, sHttp ++ r.m, l, ro, 0, nilRow⟩, ⟨⟨hm, h1, hnm, h2, h3, fo_zl _, rfl, .nil rfl⟩, rfl, rfl⟩, ⟨rfl, rfl, rfl, rfl, rfl, rfl, fo_tv⟩, Ent.pick [0, 1, 2, 3, 4, 999] rfl rfl⟩)
    | some n =>
      have hnz : n.size ≤ 4096 := by
        obtain ⟨f, g1, g2⟩ := hmem hf
        rw [← g2]
        exact (flsV_size h1 f g1).2
      refine br_intro (λ_ => br_intro (λq => ?_) (λq => ⟨ca_ok, rfl, ⟨n, ⟨#[9, 10, 13, 32]⟩⟩, rfl, rfl, ⟨by dsimp only; omega, tab4.1, tab4.2, asc_blk⟩, fo_tv, λ_ _ => br_intro (λq2 => ?_) (λq2 => ?_)⟩)) (λq => by cases q)
      · have q : (n.toList == (ByteArray.mk #[]).toList) = true := q
        rw [str_e0, beq_iff_eq] at q
        repeat refine ⟨⟨rfl, rfl⟩, ?_⟩
        exact no _ 400 (hear_non hm h1 (by rw [hnm]; dsimp only; rw [fo_dt q] <;> rfl)) (Ent.pick [0] rfl rfl)
      · have q2 : hasV n ⟨#[9, 10, 13, 32]⟩ = true := q2
        rw [hasV_blk] at q2
        repeat refine ⟨⟨rfl, rfl⟩, ?_⟩
        exact no _ 400 (hear_non hm h1 (by rw [hnm]; dsimp only; rw [q2, fo_bot] <;> rfl)) (Ent.pick [0] rfl rfl)
      · have q : (n.toList == (ByteArray.mk #[]).toList) = false := q
        rw [str_e0, fo_bf] at q
        have q2 : hasV n ⟨#[9, 10, 13, 32]⟩ = false := q2
        rw [hasV_blk] at q2
        refine ⟨⟨rfl, rfl⟩, ⟨b1, b3, b10, n, l, ro, 0, nilRow⟩, ⟨⟨hm, h1, ?_, h2, h3, fo_zl _, rfl, .nil rfl⟩, rfl, rfl⟩, ⟨rfl, rfl, rfl, rfl, rfl, rfl, fo_tv⟩, Ent.pick [0, 1, 2, 3, 4, 999] rfl rfl⟩
        show nmV r l = some n
        rw [hnm]; dsimp only; rw [q2, fo_df q] <;> rfl
  rintro ⟨b1, b3, b10, nm, l, ro, i, ow⟩ js ⟨hok, hi0, how⟩
  dsimp only at hi0 how ⊢
  subst hi0 how
  refine ⟨⟨⟨b1, b3, b10, nm, l, ro, 0, nilRow⟩, hok, ⟨rfl, rfl, rfl, rfl, rfl, rfl, rfl, rfl, rfl, fo_tv⟩, Ent.pick [0, 1, 2, 3, 4, 999] rfl rfl⟩, ?_⟩
  clear hok
  rintro ⟨b1, b3, b10, nm, l, ro, i, ow⟩ js hok
  obtain ⟨_, hl, hn, h2, h3, hi, hv, ho⟩ := hok
  have hok : HrS.ok ⟨b1, b3, b10, nm, l, ro, i, ow⟩ r := ⟨hm, hl, hn, h2, h3, hi, hv, ho⟩
  dsimp only at hl hn h2 h3 hi hv ho ⊢
  have hnr := h2.len
  have hno := ho.len
  rw [fCs_length] at hnr hno
  have hsz := flsV_size hl
  refine br_decide (λh => ?_) (λh => ?_)
  · have hlt : i < l.length := by omega
    obtain ⟨c, o, ha⟩ := h2.src.some (by omega)
    obtain ⟨q, hq⟩ : ∃ q, l[i]? = some q := ⟨l[i], fo_ge hlt⟩
    obtain ⟨g1, g2⟩ := fCs_get hq
    have hz := hsz q (fo_mg hq)
    have ht := oth_take hq
    have hbad := all_at hq
    have hgood := all_take hq hv
    obtain ⟨q1, q2⟩ := q
    dsimp only at hz ht hbad hgood
    have hsrd := h2.srcd
    rw [ha] at hsrd
    refine ⟨ixq_ok 2 rfl rfl rfl rfl, ⟨c, o, ro.n, ro.cap, i⟩, by rw [ha], ⟨by dsimp only; omega, h⟩, q1, ?_, q2, ?_, λd => ⟨⟨rfl, rfl⟩, ⟨rfl, rfl⟩, ⟨rfl, rfl⟩, vs_ok, rfl, ⟨q1⟩, rfl, rfl, by dsimp only; omega, Utf.rest (j := 0) (by simp) hu, λ_ _ => br_intro (λe => ?_) (λe => ⟨⟨rfl, rfl⟩, vs_ok, rfl, ⟨q2⟩, rfl, rfl, by dsimp only; omega, Utf.rest (j := 0) (by simp) hu, λ_ _ => br_intro (λe2 => ?_) (λe2 => ⟨⟨rfl, rfl⟩, br_intro (λe3 => ⟨⟨rfl, rfl⟩, ⟨rfl, rfl⟩, λd2 => ⟨append_ok (P := Tryz.prog) 2 32 rfl rfl rfl rfl rfl rfl rfl (by decide), rfl, ⟨ow, fCs (othV (l.take i)), some ⟨d2, 0, none⟩, 1, 1, fCs [(q1, q2)]⟩, rfl, rfl, ⟨ho, rfl, λ_ h => fCs_one h, ?_, ?_, by simp⟩, ?_, ?_⟩⟩) (λe3 => ?_)⟩)⟩)⟩⟩
    · have := Srcd.look hsrd g1
      dsimp only
      rw [fo_tn, Nat.mul_comm]
      exact this
    · have := Srcd.look hsrd g2
      dsimp only
      rw [fo_tn, Nat.mul_comm i 2, Nat.add_assoc]
      exact this
    · have e : (!okV q1) = true := e
      repeat refine ⟨⟨rfl, rfl⟩, ?_⟩
      refine no _ 400 (hear_nou hok (hbad ?_)) (Ent.pick [0] rfl rfl)
      rw [Bool.not_eq_true'] at e
      rw [e] <;> rfl
    · have e2 : (!okV q2) = true := e2
      repeat refine ⟨⟨rfl, rfl⟩, ?_⟩
      refine no _ 400 (hear_nou hok (hbad ?_)) (Ent.pick [0] rfl rfl)
      rw [Bool.not_eq_true'] at e2
      rw [e2, fo_baf]
    · have : (othV (l.take i)).length ≤ i := fo_lt (List.length_filter_le _ _) (List.length_take_le _ _)
      dsimp only; omega
    · have : (othV (l.take i)).length ≤ i := fo_lt (List.length_filter_le _ _) (List.length_take_le _ _)
      dsimp only; omega
    · intro a ha
      cases ha
      exact Seg.rest (j := 21020) (by simp) (Seg.cells (λj u hj => by rw [fo_za]; exact hj))
    · rintro y ⟨k1, k2, -⟩
      have e : (!okV q1) = false := e
      have e2 : (!okV q2) = false := e2
      have e3 : (!bEq q1 sName) = true := e3
      rw [Bool.not_eq_false'] at e e2
      rw [Bool.not_eq_true'] at e3
      have k1 : IsRow 36 2 (fCs (othV (l.take i)) ++ fCs [(q1, q2)]) y := k1
      rw [← fCs_app] at k1
      rw [e3, fo_cf] at ht
      refine ⟨⟨by omega, by omega⟩, ⟨b1, b3, b10, nm, l, ro, i + 1, y⟩, ⟨hm, hl, hn, h2, h3, hlt, hgood (by rw [e, e2] <;> rfl), ?_⟩, ⟨rfl, rfl, rfl, rfl, rfl, rfl, rfl, rfl, rfl, fo_tv⟩, Ent.pick [0, 1, 2, 3, 4, 5] rfl rfl, by dsimp only; omega⟩
      dsimp only
      rw [ht]; exact k1
    · have e : (!okV q1) = false := e
      have e2 : (!okV q2) = false := e2
      have e3 : (!bEq q1 sName) = false := e3
      rw [Bool.not_eq_false'] at e e2 e3
      rw [e3, fo_ct, fo_an] at ht
      refine ⟨⟨by omega, by omega⟩, ⟨b1, b3, b10, nm, l, ro, i + 1, ow⟩, ⟨hm, hl, hn, h2, h3, hlt, hgood (by rw [e, e2] <;> rfl), ?_⟩, ⟨rfl, rfl, rfl, rfl, rfl, rfl, rfl, rfl, rfl, fo_tv⟩, Ent.pick [0, 1, 2, 3, 4, 5] rfl rfl, by dsimp only; omega⟩
      dsimp only
      rw [ht]; exact ho
  · have hi2 : i = l.length := by omega
    rw [hi2, List.take_length] at hv ho hno
    have hd := hear_dat hok hv
    dsimp only at hd
    have hdat : datV r l = (bif decide ((othV l).length > 0) then .inl (jsV (jobV (othV l)))
      else bif decide (r.b.size > 0) && !frmV r then (bif okV r.b then .inl (jsV (quV (wideV r.b))) else .inr ())
      else .inl (some ⟨#[]⟩)) := rfl
    have hol : (othV l).length ≤ l.length := List.length_filter_le _ _
    refine br_decide (λh => ?_) (λh => ?_)
    · rw [fo_dt (show (othV l).length > 0 by omega), fo_ct] at hdat
      rw [hdat] at hd
      refine ⟨bob_ok, rfl, ⟨ow.a, ow.n, ow.cap, othV l⟩, rfl, rfl, ⟨ho.src, by dsimp only; omega, λf hf => hsz f (List.mem_filter.1 hf).1⟩, ⟨row_srcd 5 (by simp) rfl ho, Utf.rest (j := 0) (by simp) hu⟩, λ_ _ => ⟨⟨rfl, rfl⟩, ?_⟩⟩
      dsimp only
      revert hd
      generalize jsV (jobV (othV l)) = v
      intro hd
      cases v with
      | none =>
        refine br_intro (λ_ => ?_) (λq => by cases q)
        repeat refine ⟨⟨rfl, rfl⟩, ?_⟩
        exact no _ 413 hd (Ent.pick [0] rfl rfl)
      | some v =>
        refine br_intro (λq => by cases q) (λ_ => ⟨rfl, ?_⟩)
        repeat refine ⟨⟨rfl, rfl⟩, ?_⟩
        exact yes _ _ _ _ hd (Ent.pick [0] rfl rfl)
    · rw [fo_df (show ¬ (othV l).length > 0 by omega), fo_cf] at hdat
      have hbz : ∀ v, (!(r.b.toList == (ByteArray.mk #[]).toList)) = v → decide (r.b.size > 0) = v := λv q => by
        rw [str_e0] at q
        rw [← q, Bool.eq_iff_iff, decide_eq_true_iff, Bool.not_eq_true', fo_bf]; omega
      have emp : datV r l = .inl (some ⟨#[]⟩) → hearV r = .ok (cutA (tgV r) 63) nm eNul := λq => by rw [hd, q]
      refine ⟨⟨rfl, rfl⟩, br_intro (λq1 => ⟨⟨rfl, rfl⟩, ⟨rfl, rfl⟩, ⟨rfl, rfl⟩, ⟨rfl, rfl⟩, ⟨rfl, rfl⟩, if_ok, rfl, ⟨r⟩, rfl, rfl, hc, Gl.rest (j := 0) (by simp) hr, λ_ _ => br_intro (λq2 => ⟨⟨rfl, rfl⟩, vs_ok, rfl, ⟨r.b⟩, rfl, rfl, hc.2.2.2.2, Utf.rest (j := 0) (by simp) hu, λ_ _ => br_intro (λq3 => ?_) (λq3 => ⟨rfl, nwz_ok, rfl, (), rfl, rfl, fo_tv, fo_tv, λb _ => ⟨⟨rfl, rfl⟩, tb_ok, rfl, ⟨r.b⟩, rfl, rfl, hc.2.2.2.2, Utf.rest (j := 0) (by simp) hu, ?_⟩⟩)⟩) (λq2 => ?_)⟩) (λq1 => ?_)⟩
      · have q1 := hbz true q1
        have q2 : (!frmV r) = true := q2
        have q3 : (!okV r.b) = true := q3
        rw [Bool.not_eq_true'] at q3
        rw [q1, q2, q3] at hdat
        repeat refine ⟨⟨rfl, rfl⟩, ?_⟩
        exact no _ 400 (by rw [hd, hdat] <;> rfl) (Ent.pick [0] rfl rfl)
      · have q1 := hbz true q1
        have q2 : (!frmV r) = true := q2
        have q3 : (!okV r.b) = false := q3
        rw [Bool.not_eq_false'] at q3
        rw [q1, q2, q3] at hdat
        have hdat : datV r l = .inl (jsV (quV (wideV r.b))) := hdat
        rw [hdat] at hd
        have hg := Tg.good.tx b (wideV r.b) (fo_lt (wd_size r.b).1 (by omega))
        refine λ_ _ => ⟨td_ok, rfl, ⟨4, wideV r.b, quV (wideV r.b), b, λ_ => True⟩, rfl, rfl, hg, ⟨Utf.rest (j := 0) (by simp) hu, fo_tv, hg⟩, λ_ _ => ⟨⟨rfl, rfl⟩, ?_⟩⟩
        dsimp only
        revert hd
        generalize jsV (quV (wideV r.b)) = v
        intro hd
        cases v with
        | none =>
          refine br_intro (λ_ => ?_) (λq => by cases q)
          repeat refine ⟨⟨rfl, rfl⟩, ?_⟩
          exact no _ 413 hd (Ent.pick [0] rfl rfl)
        | some v =>
          refine br_intro (λq => by cases q) (λ_ => ⟨rfl, ?_⟩)
          repeat refine ⟨⟨rfl, rfl⟩, ?_⟩
          exact yes _ _ _ _ hd (Ent.pick [0] rfl rfl)
      · have q2 : (!frmV r) = false := q2
        rw [q2, fo_baf] at hdat
        refine ⟨rfl, ?_⟩
        repeat refine ⟨⟨rfl, rfl⟩, ?_⟩
        exact yes _ _ _ _ (emp hdat) (Ent.pick [0] rfl rfl)
      · have q1 := hbz false q1
        rw [q1, fo_fba] at hdat
        refine ⟨rfl, ?_⟩
        repeat refine ⟨⟨rfl, rfl⟩, ?_⟩
        exact yes _ _ _ _ (emp hdat) (Ent.pick [0] rfl rfl)
theorem hear_ok : fo_k 15 hearC := fo 124 Tryz.func15 (λ_ _ => [(0, 0, .n 1), (0, 2, .n 2), (1, 1, .q [.aq 1]), (1, 5, .q [.aq 1]), (2, 2, .w (at7 2)), (3, 1, .q [.aq 1]), (3, 2, .c tpC [] []), (3, 3, .c ctC [] []), (4, 0, .q (at5 1)), (4, 2, .c foC [] [4]), (6, 2, .w (at7 2)), (7, 1, .q [.aq 1]), (7, 4, .n 3), (7, 5, .w (at7 3)), (8, 1, .c fdC [] []), (10, 4, .c caC [] []), (11, 2, .w (at7 2)), (12, 2, .w [.aq 3]), (16, 0, .qo (ixQ 2)), (16, 1, .q [.ex 4 .str, .ex 4 .str]), (16, 2, .n 17020), (16, 3, .w [.aq 17020, .aq 17020]), (17, 1, .q [.aq 17020]), (17, 2, .c vsC [] []), (17, 6, .q [.aq 17020]), (17, 7, .c vsC [] []), (18, 2, .w (at7 2)), (19, 1, .q [.aq 17020]), (20, 1, .q [.aq 17020, .aq 17020]), (20, 2, .n 21020), (20, 3, .o (apC 36 2 32) [5] [5]), (23, 1, .c bobC [] []), (23, 6, .w [.aq 3]), (24, 1, .q [.aq 1]), (24, 4, .q (at5 1)), (24, 5, .c ifC [] []), (25, 1, .q [.aq 1]), (25, 2, .c vsC [] []), (26, 2, .w (at7 2)), (27, 0, .c nwzC [] [700]), (27, 2, .q [.aq 1]), (27, 3, .c tbC [] []), (27, 4, .c tdC [] []), (27, 9, .w [.aq 3]), (29, 2, .w (at7 2)), (30, 1, .q (at7 3)), (30, 3, .w (at7 2))]) [] hearInv hearCut fo_o [LH.aq 2, LH.aq 2, LH.aq 2, LH.aq 2, LH.aq 2, LH.aq 2, LH.aq 2] hear_vc
end
section
open Go
set_option maxHeartbeats 1000000
structure JrX where
  b : Nat
  w : ByteArray
  i : Nat
  s : ByteArray := ⟨#[]⟩
  c : Nat := 0
def jrA (b : Nat) (w : ByteArray) (i : Nat) : Atom := .cells b [.string w, .int .i64 i] 138
structure JrIn (x : JrX) (F : Atom) : Prop where
  l0 : Look F ⟨x.b, 0, none⟩ (.string x.w)
  l1 : Look F ⟨x.b, 1, none⟩ (.int .i64 x.i)
theorem JrIn.sub {x : JrX} {A B : Atom} (hs : Sub A B) (h : JrIn x A) : JrIn x B := ⟨h.l0.sub hs, h.l1.sub hs⟩
theorem JrIn.jr (x : JrX) : JrIn x (jrA x.b x.w x.i) := ⟨Look.cells rfl, Look.cells rfl⟩
def jpk (w : ByteArray) (i : Nat) : Int := bif decide (i < w.size / 2) then (unitN w i : Int) else -1
abbrev pkfC : Con where
  X := JrX
  Y := Unit
  args x := [.pointer (some ⟨x.b, 0, none⟩)]
  pre _ := []
  cond x := x.w.size ≤ 1048576 ∧ x.i ≤ 1048576
  rdc x F := JrIn x F
  rel _ _ := True
  val x _ := .returned (.int .i64 (jpk x.w x.i))
  post _ _ := []
  rmono _ _ _ hs h := h.sub hs
theorem pkf_vc (x : JrX) (F : Atom) (hc : pkfC.cond x) (hr : pkfC.rdc x F) :
 true = true ∧ T25 F ⟨x.b, 0, none⟩ (λd => T59 F ⟨x.b, 1, none⟩ (λc => T36 [fo_vs d, fo_vi c] (λb a => Br (!decide (b.i < b.s.size / 2)) (Done pkfC x F q79 [(0, F)]) (Done pkfC x F (fo_rt (q208 b)) [(0, F)])))) := by
  delta T25 T59 T36 q79 q208 fo_C1 fo_vi fo_vs fo_rt
  have hr : JrIn x F := hr
  refine ⟨rfl, x.w, hr.l0, x.i, hr.l1, atu_ok, rfl, ⟨x.w, x.i⟩, rfl, rfl, ⟨by have := hc.1; dsimp only; omega, by have := hc.2; dsimp only; omega⟩, fo_tv, λ_ _ => br_intro (λh => ?_) (λh => ?_)⟩
  · have h : (!decide (x.i < x.w.size / 2)) = true := h
    have h : decide (x.i < x.w.size / 2) = false := by simpa using h
    exact ⟨(), fo_tv, by show _ = returned (.int .i64 (jpk x.w x.i)); rw [jpk, h] <;> rfl, Ent.pick [0] rfl rfl⟩
  · have h : (!decide (x.i < x.w.size / 2)) = false := h
    have h : decide (x.i < x.w.size / 2) = true := by simpa using h
    exact ⟨(), fo_tv, by show _ = returned (.int .i64 (jpk x.w x.i)); rw [jpk, h] <;> rfl, Ent.pick [0] rfl rfl⟩
theorem pkf_ok : fo_k 83 pkfC := fo 20 Tryz.func83 (λ_ _ => [(1, 3, .q [.ex 0 .str]), (1, 7, .q [.ex 0 (.int .i64)]), (1, 8, .c atuC [] [])]) [] fo_i fo_i fo_o [] pkf_vc
def isBk (c : Int) : Bool := decide (c = 9) || (decide (c = 10) || (decide (c = 13) || decide (c = 32)))
abbrev blfC : Con where
  X := JrX
  Y := Unit
  args x := [.pointer (some ⟨x.b, 0, none⟩)]
  pre _ := []
  cond x := x.w.size ≤ 1048576 ∧ x.i ≤ 1048576 ∧ isBk (jpk x.w x.i) = false
  rdc x F := JrIn x F
  rel _ _ := True
  val _ _ := .returned (.tuple #[])
  post _ _ := []
  rmono _ _ _ hs h := h.sub hs
def blfInv (x : JrX) (F : Atom) : Nat → Option Inv := fun
  | 0 => some { X := Unit, P := λ_ => True, mu := λ_ => 0, lv := λ_ => [(0, .pointer (some ⟨x.b, 0, none⟩)), (2, .int .i64 (jpk x.w x.i))], st := λ_ => [F] }
  | _ => none
def T87 := fo_C2 83 pkfC (λw0 => w0.w.size ≤ 1048576 ∧ w0.i ≤ 1048576) JrIn
abbrev q148 (x : JrX) : Option Addr := some ⟨x.b, 0, none⟩
theorem blf_vc (x : JrX) (F : Atom) (hc : blfC.cond x) (hr : blfC.rdc x F) :
 T87 [fo_vp (q148 x)] (q112 F) (λd c => (∃(a : Unit), True ∧ (fo_vp (q148 x) = fo_vp (q148 x) ∧ fo_vi (jpk d.w d.i) = fo_vi (jpk x.w x.i) ∧ True) ∧ Ent [(0, F)] [(0, F)]) ∧ fo_vA λ(b : Unit) _ => True → Br (jpk x.w x.i == 9) False (Br (jpk x.w x.i == 10) False (Br (jpk x.w x.i == 13) False (Br (jpk x.w x.i == 32) False (Done blfC x F q73 [(0, F)]))))) := by
  delta T87 q148 q112 q73 fo_aR fo_C2 fo_vi fo_vp fo_rt fo_vA
  have hr : JrIn x F := hr
  refine ⟨pkf_ok, rfl, x, rfl, rfl, ⟨hc.1, hc.2.1⟩, JrIn.sub (sub_rest 0 (by simp) rfl) hr, λ_ _ => ⟨⟨(), fo_tv, ⟨rfl, rfl, fo_tv⟩, Ent.pick [0] rfl rfl⟩, λ_ _ _ => ?_⟩⟩
  have h := hc.2.2
  unfold isBk at h
  have h1 : jpk x.w x.i ≠ 9 ∧ jpk x.w x.i ≠ 10 ∧ jpk x.w x.i ≠ 13 ∧ jpk x.w x.i ≠ 32 := by simpa using h
  obtain ⟨a, b, c, d⟩ := h1
  rw [beq_false_of_ne a, beq_false_of_ne b, beq_false_of_ne c, beq_false_of_ne d]
  exact ⟨(), fo_tv, rfl, Ent.pick [0] rfl rfl⟩
theorem blf_ok : fo_k 126 blfC := fo 28 Tryz.func126 (λ_ _ => [(0, 1, .c pkfC [] []), (2, 1, .c pkfC [] [])]) [(3, 3, OH.q [])] blfInv fo_i fo_o [] blf_vc
abbrev nvrC : Con where
  X := JrX
  Y := Unit
  args x := [.pointer (some ⟨x.b, 0, none⟩)]
  pre _ := []
  cond _ := False
  rdc _ _ := True
  rel _ _ := True
  val _ _ := .returned (.tuple #[])
  post _ _ := []
abbrev mstC : Con where
  X := JrX
  Y := Unit
  args x := [.pointer (some ⟨x.b, 0, none⟩), .int .i64 x.c]
  pre x := [jrA x.b x.w x.i]
  cond x := x.w.size ≤ 1048576 ∧ x.i ≤ 1048576 ∧ jpk x.w x.i = x.c
  rdc _ _ := True
  rel _ _ := True
  val _ _ := .returned (.tuple #[])
  post x _ := [jrA x.b x.w (x.i + 1)]
def mstOv (_x : JrX) (_F : Atom) : List (Nat × Nat × OH) := [(0, 1, .c pkfC [] []), (1, 1, .c nvrC [] []), (2, 3, .q [.ex 0 (.is (.int .i64 _x.i))])]
abbrev q380 (x : JrX) : List Value := [fo_vs x.w, fo_vi ↑x.i]
def T88 := fo_C1 84 nvrC (λ_ => False)
theorem mst_vc (x : JrX) (F : Atom) (hc : mstC.cond x) (hr : mstC.rdc x F) :
 T87 [fo_vp (q148 x)] (fo_aR [(0, fo_cl x.b (q380 x) 138), (1, F)] []) (λd c => Br (jpk d.w d.i != x.c) (T88 [fo_vp (q148 x)] (λb a => Look (fo_cl x.b (q380 x) 138) ⟨x.b, 1, none⟩ (fo_vi ↑x.i) ∧ fo_rI ((x.i : Int) + 1) ∧ fo_sm x.b 1 ∧ Done mstC x F q73 [(0, fo_cl x.b [fo_vs x.w, fo_vi ((x.i : Int) + 1)] 138), (1, F)])) (Look (fo_cl x.b (q380 x) 138) ⟨x.b, 1, none⟩ (fo_vi ↑x.i) ∧ fo_rI ((x.i : Int) + 1) ∧ fo_sm x.b 1 ∧ Done mstC x F q73 [(0, fo_cl x.b [fo_vs x.w, fo_vi ((x.i : Int) + 1)] 138), (1, F)])) := by
  delta T87 q148 q380 T88 q73 fo_aR fo_sm fo_rI fo_C1 fo_C2 fo_vi fo_vs fo_vp fo_cl fo_rt
  obtain ⟨h1, h2, h3⟩ := hc
  refine ⟨pkf_ok, rfl, x, rfl, rfl, ⟨h1, h2⟩, JrIn.sub (sub_rest 0 (by simp) rfl) (.jr x), λ_ _ => ?_⟩
  have e : (jpk x.w x.i != (x.c : Int)) = false := by rw [h3]; simp
  dsimp only
  rw [e]
  exact ⟨Look.cells rfl, ⟨by omega, by omega⟩, ⟨rfl, rfl⟩, (), fo_tv, rfl, Ent.pick [0, 1] rfl rfl⟩
theorem mst_ok : fo_k 179 mstC := fo 17 Tryz.func179 mstOv [(2, 7, OH.w [LH.aq (0 : Nat)])] fo_i fo_i fo_o [] mst_vc
structure CgX where
  w : ByteArray
  i : Nat
  j : Nat
def cgV (w : ByteArray) (i j : Nat) : ByteArray := bif decide (min i (w.size / 2) < min j (w.size / 2)) then w.extract (2 * min i (w.size / 2)) (2 * min j (w.size / 2)) else ⟨#[]⟩
abbrev cgC : Con where
  X := CgX
  Y := Unit
  args x := [.string x.w, .int .i64 x.i, .int .i64 x.j]
  pre _ := []
  cond x := x.w.size ≤ 1048576 ∧ x.i ≤ 2097152 ∧ x.j ≤ 2097152
  rdc _ _ := True
  rel _ _ := True
  val x _ := .returned (.string (cgV x.w x.i x.j))
  post _ _ := []
theorem cg_vc (x : CgX) (F : Atom) (hc : cgC.cond x) (hr : cgC.rdc x F) :
 T35 [fo_vs x.w] (λd c => T35 [fo_vs x.w] (λb a => fo_Bd ((if (↑(d.a.size / 2) : Int) < if 0 > (x.i : Int) then (0 : Int) else (x.i : Int) then (↑(d.a.size / 2) : Int) else if 0 > (x.i : Int) then (0 : Int) else (x.i : Int)) ≥ if (↑(b.a.size / 2) : Int) < if 0 > (x.j : Int) then (0 : Int) else (x.j : Int) then (↑(b.a.size / 2) : Int) else if 0 > (x.j : Int) then (0 : Int) else (x.j : Int)) (Done cgC x F (fo_rt (fo_vs ⟨#[]⟩)) [(0, F)]) ((((-9223372036854775808 : Int) ≤ 2 * if (↑(d.a.size / 2) : Int) < if 0 > (x.i : Int) then (0 : Int) else (x.i : Int) then (↑(d.a.size / 2) : Int) else if 0 > (x.i : Int) then (0 : Int) else (x.i : Int)) ∧ (2 * if (↑(d.a.size / 2) : Int) < if 0 > (x.i : Int) then (0 : Int) else (x.i : Int) then (↑(d.a.size / 2) : Int) else if 0 > (x.i : Int) then (0 : Int) else (x.i : Int)) ≤ 9223372036854775807) ∧ (((-9223372036854775808 : Int) ≤ 2 * if (↑(b.a.size / 2) : Int) < if 0 > (x.j : Int) then (0 : Int) else (x.j : Int) then (↑(b.a.size / 2) : Int) else if 0 > (x.j : Int) then (0 : Int) else (x.j : Int)) ∧ (2 * if (↑(b.a.size / 2) : Int) < if 0 > (x.j : Int) then (0 : Int) else (x.j : Int) then (↑(b.a.size / 2) : Int) else if 0 > (x.j : Int) then (0 : Int) else (x.j : Int)) ≤ 9223372036854775807) ∧ (((0 : Int) ≤ 2 * if (↑(d.a.size / 2) : Int) < if 0 > (x.i : Int) then (0 : Int) else (x.i : Int) then (↑(d.a.size / 2) : Int) else if 0 > (x.i : Int) then (0 : Int) else (x.i : Int)) ∧ ((2 * if (↑(d.a.size / 2) : Int) < if 0 > (x.i : Int) then (0 : Int) else (x.i : Int) then (↑(d.a.size / 2) : Int) else if 0 > (x.i : Int) then (0 : Int) else (x.i : Int)) ≤ 2 * if (↑(b.a.size / 2) : Int) < if 0 > (x.j : Int) then (0 : Int) else (x.j : Int) then (↑(b.a.size / 2) : Int) else if 0 > (x.j : Int) then (0 : Int) else (x.j : Int)) ∧ (2 * if (↑(b.a.size / 2) : Int) < if 0 > (x.j : Int) then (0 : Int) else (x.j : Int) then (↑(b.a.size / 2) : Int) else if 0 > (x.j : Int) then (0 : Int) else (x.j : Int)) ≤ (x.w.size : Int)) ∧ Done cgC x F (fo_rt (fo_vs (x.w.extract (2 * if (↑(d.a.size / 2) : Int) < if 0 > (x.i : Int) then (0 : Int) else (x.i : Int) then (↑(d.a.size / 2) : Int) else if 0 > (x.i : Int) then (0 : Int) else (x.i : Int)).toNat (2 * if (↑(b.a.size / 2) : Int) < if 0 > (x.j : Int) then (0 : Int) else (x.j : Int) then (↑(b.a.size / 2) : Int) else if 0 > (x.j : Int) then (0 : Int) else (x.j : Int)).toNat))) [(0, F)]))) := by
  delta T35 fo_C1 fo_vs fo_Bd fo_rt
  obtain ⟨w, i, j⟩ := x
  obtain ⟨hw, hi, hj⟩ := hc
  dsimp only at hw hi hj ⊢
  refine ⟨len_ok, rfl, ⟨w, w⟩, rfl, rfl, by dsimp only; omega, fo_tv, λ_ _ => ⟨len_ok, rfl, ⟨w, w⟩, rfl, rfl, by dsimp only; omega, fo_tv, λ_ _ => ?_⟩⟩
  dsimp only
  rw [if_neg (show ¬ 0 > (i : Int) by omega), if_neg (show ¬ 0 > (j : Int) by omega)]
  have mi : ∀ k : Nat, (if ((w.size / 2 : Nat) : Int) < (k : Int) then ((w.size / 2 : Nat) : Int) else (k : Int)) = ((min k (w.size / 2) : Nat) : Int) := λk => by
    by_cases h : w.size / 2 < k
    · rw [if_pos (by omega), Nat.min_eq_right (by omega)]
    · rw [if_neg (by omega), Nat.min_eq_left (by omega)]
  rw [mi i, mi j]
  have a1 := Nat.min_le_right i (w.size / 2)
  have a2 := Nat.min_le_right j (w.size / 2)
  have fin : ∀ s, s = cgV w i j → Done cgC ⟨w, i, j⟩ F (returned (string s)) [(0, F)] := λs e => ⟨(), fo_tv, by rw [e] <;> rfl, Ent.pick [0] rfl rfl⟩
  unfold cgV at fin
  generalize min i (w.size / 2) = i at *
  generalize min j (w.size / 2) = j at *
  refine br_decide (λh => fin _ ?_) (λh => ⟨⟨by omega, by omega⟩, ⟨by omega, by omega⟩, ⟨by omega, by omega, by omega⟩, fin _ ?_⟩)
  · rw [fo_df (by omega), fo_cf]
  · rw [fo_dt (by omega), fo_ct, show (2 * (i : Int)).toNat = 2 * i by omega, show (2 * (j : Int)).toNat = 2 * j by omega]
theorem cg_ok : fo_k 122 cgC := fo 26 Tryz.func122 (λ_ _ => [(1, 3, .c lenC [] []), (1, 8, .c lenC [] [])]) [] fo_i fo_i fo_o [] cg_vc
abbrev wrdC2 : Con where
  X := JrX
  Y := Unit
  args x := [.pointer (some ⟨x.b, 0, none⟩), .string x.s]
  pre _ := []
  cond x := x.w.size ≤ 1048576 ∧ x.i ≤ 1048576 ∧ x.s.size ≤ 1048576 ∧ cgV x.w x.i (x.i + x.s.size) ≠ wideV x.s
  rdc x F := JrIn x F ∧ Utf F
  rel _ _ := True
  val _ _ := .returned (.bool false)
  post _ _ := []
  rmono _ _ _ hs h := ⟨h.1.sub hs, h.2.sub hs⟩
def T89 := fo_C1 122 cgC (λw0 => w0.w.size ≤ 1048576 ∧ w0.i ≤ 2097152 ∧ w0.j ≤ 2097152)
theorem wrd2_vc (x : JrX) (F : Atom) (hc : wrdC2.cond x) (hr : wrdC2.rdc x F) :
 true = true ∧ T25 F ⟨x.b, 0, none⟩ (λh => T59 F ⟨x.b, 1, none⟩ (λg => T59 F ⟨x.b, 1, none⟩ (λf => fo_rI (f + x.s.size) ∧ T89 [fo_vs h, fo_vi g, fo_vi (f + x.s.size)] (λe d => T54 [fo_vs x.s] (q112 F) (λc b => Br (!(cgV e.w e.i e.j).toList == (wideV c.s).toList) (Done wrdC2 x F q87 [(0, F)]) (T59 F ⟨x.b, 1, none⟩ (λa => fo_rI (a + x.s.size) ∧ False))))))) := by
  delta T25 T59 T89 q223 T54 q112 q87 fo_aR fo_rI fo_C1 fo_C2 fo_vi fo_vs fo_vb fo_rt
  obtain ⟨h1, h2, h3, h4⟩ := hc
  obtain ⟨hr, hu⟩ := hr
  have hr : JrIn x F := hr
  refine ⟨rfl, x.w, hr.l0, x.i, hr.l1, x.i, hr.l1, ⟨by omega, by omega⟩, cg_ok, rfl, ⟨x.w, x.i, x.i + x.s.size⟩, rfl, rfl, ⟨h1, by dsimp only; omega, by dsimp only; omega⟩, fo_tv, λ_ _ => ⟨wp_ok, rfl, ⟨x.s⟩, rfl, rfl, h3, Utf.rest (j := 0) (by simp) hu, λ_ _ => ?_⟩⟩
  have e : (!(cgV x.w x.i (x.i + x.s.size)).toList == (wideV x.s).toList) = true := by
    cases hb : (cgV x.w x.i (x.i + x.s.size)).toList == (wideV x.s).toList with
    | false => rfl
    | true => exact (h4 ((bEq_eq _ _).1 hb)).elim
  dsimp only
  rw [e]
  exact ⟨(), fo_tv, rfl, Ent.pick [0] rfl rfl⟩
theorem wrd2_ok : fo_k 129 wrdC2 := fo 33 Tryz.func129 (λ_ _ => [(1, 3, .q [.ex 0 .str]), (1, 7, .q [.ex 0 (.int .i64)]), (1, 11, .q [.ex 0 (.int .i64)]), (1, 15, .c cgC [] []), (1, 17, .c wC [] []), (3, 3, .q [.ex 0 (.int .i64)])]) [(3, 9, OH.w [])] fo_i fo_i fo_o [] wrd2_vc
end
section
open Go
set_option maxHeartbeats 1000000
abbrev EscF := ByteArray → Nat → Option (Nat × Nat)
def jtx (E : EscF) (w : ByteArray) : Nat → Nat → ByteArray → Option (Nat × ByteArray)
  | 0, _, _ => none
  | f + 1, i, o => bif (jpk w i != 34) then (bif decide (jpk w i < 32) then none else (bif (jpk w i == 92) then ((E w (i + 1)).bind λp => bif decide (p.1 < 65536) && decide (p.2 ≤ 1048576) then jtx E w f p.2 (o ++ btL [p.1 / 256, p.1 % 256]) else none) else jtx E w f (i + 1) (o ++ btL [unitN w i / 256, unitN w i % 256]))) else some (i + 1, o)
structure EsX where
  E : EscF
  b : Nat
  w : ByteArray
  i : Nat
  c : Nat
  j : Nat
abbrev esfC (E : EscF) : Con where
  X := EsX
  Y := Unit
  args x := [.pointer (some ⟨x.b, 0, none⟩)]
  pre x := [jrA x.b x.w x.i]
  cond x := x.w.size ≤ 1048576 ∧ x.i ≤ 1048576 ∧ E x.w x.i = some (x.c, x.j)
  rdc _ _ := True
  rel _ _ := True
  val x _ := .returned (.int .i64 x.c)
  post x _ := [jrA x.b x.w x.j]
structure TxfX where
  E : EscF
  b : Nat
  w : ByteArray
  i : Nat
  j : Nat
  o : ByteArray
abbrev txfC : Con where
  X := TxfX
  Y := Unit
  args x := [.pointer (some ⟨x.b, 0, none⟩)]
  pre x := [jrA x.b x.w x.i]
  cond x := (x.w.size ≤ 1048576 ∧ x.i ≤ 1048575 ∧ fo_k 180 (esfC x.E)) ∧ jpk x.w x.i = 34 ∧ jtx x.E x.w (x.w.size + 1) (x.i + 1) ⟨#[]⟩ = some (x.j, x.o)
  rdc _ _ := True
  rel _ _ := True
  val x _ := .returned (.string x.o)
  post x _ := [jrA x.b x.w x.j]
structure TfS where
  b : Nat
  i : Nat
  o : ByteArray
  f : Nat
structure Tf2 where
  d : TfS
  k : Nat
  c : Nat
def TfS.ok (x : TxfX) (d : TfS) : Prop := d.i ≤ 1048576 ∧ d.o.size + 2 * d.f ≤ 4194304 ∧ jtx x.E x.w d.f d.i d.o = some (x.j, x.o)
def Tf2.ok (x : TxfX) (e : Tf2) : Prop := e.k ≤ 1048576 ∧ e.c < 65536 ∧ (e.d.o.size + 2 * e.d.f ≤ 4194304 ∧ 1 ≤ e.d.f) ∧ jtx x.E x.w (e.d.f - 1) e.k (e.d.o ++ btL [e.c / 256, e.c % 256]) = some (x.j, x.o)
def tfG : (T : Type) × (Tf2 → T) := ⟨TfS, λe => e.d⟩
def txfInv (x : TxfX) (F : Atom) : Nat → Option Inv := fun
  | 0 => some { X := TfS, P := λd => d.ok x, mu := λd => d.f, lv := λd => [(0, .pointer (some ⟨x.b, 0, none⟩)), (3, .pointer (some ⟨d.b, 0, none⟩))], st := λd => [bdA d.b d.o, jrA x.b x.w d.i, F] }
  | _ => none
def t7G : (T : Type) × (TfS → T) := ⟨TfS, λd => d⟩
def TfS.ok7 (x : TxfX) (d : TfS) : Prop := d.ok x ∧ 1 ≤ d.f ∧ jpk x.w d.i ≠ 34 ∧ 32 ≤ jpk x.w d.i
def txfCut (x : TxfX) (F : Atom) : Nat → Option Inv := fun
  | 7 => some { X := TfS, P := λd => d.ok7 x, mu := λ_ => 0, lv := λd => [(0, .pointer (some ⟨x.b, 0, none⟩)), (3, .pointer (some ⟨d.b, 0, none⟩)), (4, .int .i64 (unitN x.w d.i : Nat))], st := λd => [bdA d.b d.o, jrA x.b x.w d.i, F], gh := some t7G }
  | 10 => some { X := Tf2, P := λe => e.ok x, mu := λ_ => 0, lv := λe => [(0, .pointer (some ⟨x.b, 0, none⟩)), (3, .pointer (some ⟨e.d.b, 0, none⟩)), (4, .int .i64 e.c)], st := λe => [bdA e.d.b e.d.o, jrA x.b x.w e.k, F], gh := some tfG }
  | _ => none
def txfOv (_x : TxfX) (_F : Atom) : List (Nat × Nat × OH) := [(1, 1, .c mstC [0] [0]), (2, 0, .n 2000), (3, 1, .c pkfC [] []), (4, 1, .c pkfC [] []), (6, 1, .c nvrC [] []), (9, 1, .c (esfC _x.E) [1] [1]), (10, 2, .qo (cvQ .i64 .u8 256)), (10, 4, .qo (cvQ .i64 .u8 256)), (10, 5, .n 10050), (10, 6, .c wrP [0] [0]), (12, 0, .c bsP [0] [])]
def T90 := fo_C3 179 mstC (λw0 => w0.w.size ≤ 1048576 ∧ w0.i ≤ 1048576 ∧ jpk w0.w w0.i = w0.c)
abbrev q160 (e0 : TxfX) : Option Addr := some ⟨e0.b, 0, none⟩
abbrev q244 (z : TfS) : Option Addr := some ⟨z.b, 0, none⟩
abbrev q66 (u : JrX) : List Value := [fo_vs u.w, fo_vi (↑(u.i + 1) : Int)]
abbrev q43 (z : TfS) (e0 : TxfX) (e2 : Atom) := [(0, fo_pr (Ex.rest (bdR z.b z.o) (bdB z.b))), (1, fo_cl e0.b [fo_vs e0.w, fo_vi ↑z.i] 138), (2, e2)]
def T91 (e0 : TxfX) (e1 : TfS) (e2 : Atom) (v0 v1 : Value) (ss : St) := ∃ (z : TfS), (TfS.ok7 e0 z ∧ t7G.snd z = e1) ∧ (fo_vp (q160 e0) = fo_vp (q160 e0) ∧ v0 = fo_vp (q244 z) ∧ v1 = fo_vi (↑(unitN e0.w z.i) : Int) ∧ True) ∧ Ent ss (q43 z e0 e2)
def T92 (e0 : TxfX) (e1 : TfS) (e2 : Atom) (v0 v1 : Value) (ss : St) := ∃ (z : Tf2), (Tf2.ok e0 z ∧ tfG.snd z = e1) ∧ (fo_vp (q160 e0) = fo_vp (q160 e0) ∧ v0 = fo_vp (some ⟨z.d.b, 0, none⟩) ∧ v1 = fo_vi ↑z.c ∧ True) ∧ Ent ss [(0, fo_pr (Ex.rest (bdR z.d.b z.d.o) (bdB z.d.b))), (1, fo_cl e0.b [fo_vs e0.w, fo_vi ↑z.k] 138), (2, e2)]
def T93 (oo : Oper) (aa : List Value) (k0 : Nat → Prop) := QOpOk Tryz.prog oo (cvQ i64 u8 256) ∧ ∃ (z : Nat), aa = [fo_vi ↑z] ∧ True ∧ k0 z
abbrev q250 (f e : Nat) : List Value := [fo_vc (↑(f % 256) : Int), fo_vc (↑(e % 256) : Int)]
theorem txf_vc (x : TxfX) (F : Atom) (hc : txfC.cond x) (hr : txfC.rdc x F) :
 T90 [fo_vp (q160 x), fo_vi 34] [fo_cl x.b [fo_vs x.w, fo_vi ↑x.i] 138] (λu t => ∀(s : Nat), (∃(a : TfS), TfS.ok x a ∧ (fo_vp (q160 x) = fo_vp (q160 x) ∧ fo_vp (q13 s) = fo_vp (q244 a) ∧ True) ∧ Ent [(0, fo_cl u.b (q66 u) 138), (1, F), (2000, fo_cl s q392 81)] (q43 a x F)) ∧ fo_vA λ(r : TfS) _ => TfS.ok x r → T87 [fo_vp (q160 x)] (fo_aR (q43 r x F) []) (λp o => Br (jpk p.w p.i != 34) (T87 [fo_vp (q160 x)] (fo_aR (q43 r x F) []) (λn m => ∃(l : TfS), fo_Bd (jpk n.w n.i < 32) (T88 [fo_vp (q160 x)] (λc b => T91 x l F (fo_vp (q244 r)) (fo_vi (jpk n.w n.i)) (q43 r x F))) (T91 x l F (fo_vp (q244 r)) (fo_vi (jpk n.w n.i)) (q43 r x F)) ∧ fo_vA λ(k : TfS) _ => (TfS.ok7 x k ∧ t7G.snd k = l) → fo_sm x.b 1 ∧ fo_rI ((k.i : Int) + 1) ∧ fo_sm x.b 1 ∧ ∃(i : TfS), Br ((↑(unitN x.w k.i) : Int) == 92) (fo_C3 180 (esfC x.E) (λc => c.w.size ≤ 1048576 ∧ c.i ≤ 1048576 ∧ x.E c.w c.i = some (c.c, c.j)) [fo_vp (q160 x)] [fo_cl x.b [fo_vs x.w, fo_vi ((k.i : Int) + 1)] 138] (λc b => T92 x i F (fo_vp (q244 k)) (fo_vi ↑c.c) [(0, fo_pr (Ex.rest (bdR k.b k.o) (bdB k.b))), (1, fo_cl c.b [fo_vs c.w, fo_vi ↑c.j] 138), (2, F)])) (T92 x i F (fo_vp (q244 k)) (fo_vi (↑(unitN x.w k.i) : Int)) [(0, fo_pr (Ex.rest (bdR k.b k.o) (bdB k.b))), (1, fo_cl x.b [fo_vs x.w, fo_vi ((k.i : Int) + 1)] 138), (2, F)]) ∧ fo_vA λ(h : Tf2) _ => (Tf2.ok x h ∧ tfG.snd h = i) → T93 (opIn Tryz.f128 10 2) [fo_vi ((h.c : Int).fdiv ((2 : Int) ^ min (Int.toNat (8 : Int)) i64.bits))] (λf => T93 (opIn Tryz.f128 10 4) [fo_vi ↑h.c] (λe => ∀(d : Nat), fo_C4 181 wrP (λc => (c.t.size + c.l.length ≤ 140737488355328 ∧ ∀(a : Nat), a ∈ c.l → a < 256)) (λc rr => Seg rr c.a (u8s c.l)) (λ_ _ => True) [fo_vp (some ⟨h.d.b, 0, none⟩), fo_vl (q13 d) 2 2] [fo_pr (Ex.rest (bdR h.d.b h.d.o) (bdB h.d.b))] (fo_aR [(0, fo_pr (Ex.rest (bdR h.d.b h.d.o) (bdB h.d.b))), (1, fo_cl x.b [fo_vs x.w, fo_vi ↑h.k] 138), (2, F), (10050, fo_cl d (q250 f e) 5)] [0]) (λc b => ∃(a : TfS), TfS.ok x a ∧ (fo_vp (q160 x) = fo_vp (q160 x) ∧ fo_vp (some ⟨h.d.b, 0, none⟩) = fo_vp (q244 a) ∧ True) ∧ Ent [(0, fo_pr (Ex.rest (bdR c.b (c.t ++ btL c.l)) (bdB c.b))), (1, fo_cl x.b [fo_vs x.w, fo_vi ↑h.k] 138), (2, F), (10050, fo_cl d (q250 f e) 5)] (q43 a x F) ∧ a.f < r.f))))) (fo_sm x.b 1 ∧ fo_rI ((r.i : Int) + 1) ∧ fo_sm x.b 1 ∧ T18 [fo_vp (q244 r)] [fo_pr (Ex.rest (bdR r.b r.o) (bdB r.b))] (λb a => Done txfC x F (fo_rt (fo_vs b.t)) [(0, fo_em), (1, fo_cl x.b [fo_vs x.w, fo_vi ((r.i : Int) + 1)] 138), (2, F)])))) := by
  delta T90 q160 q13 q244 q66 q392 q43 T87 T88 T91 T92 T93 q250 T18 fo_aR fo_sm fo_rI fo_C1 fo_C2 fo_C3 fo_C4 fo_vi fo_vc fo_vs fo_vp fo_vl fo_cl fo_pr fo_em fo_Bd fo_rt fo_vA
  obtain ⟨⟨hw, hi, hE⟩, h34, hx⟩ := hc
  have J : ∀ (k : Nat) (b : Nat) (o : ByteArray) (S : List Atom), JrIn ⟨x.b, x.w, k, ⟨#[]⟩, 0⟩ (.pred (rest (ofL [bdA b o, jrA x.b x.w k, F]) [])) := λk b o _ => JrIn.sub (sub_rest 1 (by simp) rfl) (.jr ⟨x.b, x.w, k, ⟨#[]⟩, 0⟩)
  refine ⟨mst_ok, rfl, ⟨x.b, x.w, x.i, ⟨#[]⟩, 34⟩, rfl, rfl, ⟨hw, by dsimp only; omega, h34⟩, fo_tv, λ_ _ b => ⟨⟨⟨b, x.i + 1, ⟨#[]⟩, x.w.size + 1⟩, ⟨by dsimp only; omega, ?_, hx⟩, ⟨rfl, rfl, fo_tv⟩, Ent.ex [0, 1] [2000, 999] ⟨none, nilRow⟩ (bd_new b) rfl rfl rfl⟩, ?_⟩⟩
  · show 0 + 2 * (x.w.size + 1) ≤ 4194304
    omega
  clear b
  rintro ⟨b, i, o, f⟩ js ⟨h1, h2, h3⟩
  dsimp only at h1 h2 h3 ⊢
  obtain ⟨f', rfl⟩ : ∃ f', f = f' + 1 := ⟨f - 1, by cases f with | zero => cases h3 | succ n => rfl⟩
  refine ⟨pkf_ok, rfl, ⟨x.b, x.w, i, ⟨#[]⟩, 0⟩, rfl, rfl, ⟨hw, h1⟩, J i b o [], λ_ _ => br_intro (λc1 => ?_) (λc1 => ?_)⟩
  · have c1 : (jpk x.w i != 34) = true := c1
    have h3' := h3
    rw [jtx, c1, fo_ct] at h3
    refine ⟨pkf_ok, rfl, ⟨x.b, x.w, i, ⟨#[]⟩, 0⟩, rfl, rfl, ⟨hw, h1⟩, J i b o [], λ_ _ => ⟨⟨b, i, o, f' + 1⟩, br_decide (λc2 => ?_) (λc2 => ?_), ?_⟩⟩
    · rw [fo_dt c2, fo_ct] at h3
      cases h3
    · have c2 : ¬ jpk x.w i < 32 := c2
      have c3 : jpk x.w i ≠ 34 := by simpa using c1
      refine ⟨⟨b, i, o, f' + 1⟩, ⟨⟨⟨h1, h2, h3'⟩, Nat.succ_pos _, c3, by dsimp only; omega⟩, rfl⟩, ⟨rfl, rfl, ?_, fo_tv⟩, Ent.pick [0, 1, 2] rfl rfl⟩
      show int .i64 (jpk x.w i) = _
      unfold jpk at c2 ⊢
      cases hd : decide (i < x.w.size / 2) with
      | true => rfl
      | false => rw [hd, fo_cf] at c2; exact (c2 (by decide)).elim
    clear c1 h1 h2 h3 h3'
    rintro ⟨b', i', o', g⟩ js ⟨⟨⟨h1, h2, h3⟩, h4, c1, c2⟩, e⟩
    have e : TfS.mk b' i' o' g = ⟨b, i, o, f' + 1⟩ := e
    cases e
    dsimp only at h1 h2 h3 c1 c2 ⊢
    rw [jtx, show (jpk x.w i != 34) = true by simpa using c1, fo_ct, fo_df (by omega), fo_cf] at h3
    have hin : i < x.w.size / 2 ∧ jpk x.w i = (unitN x.w i : Int) := by
      unfold jpk at c2 ⊢
      cases hd : decide (i < x.w.size / 2) with
      | true => exact ⟨fo_od1 hd, rfl⟩
      | false => rw [hd, fo_cf] at c2; exact absurd c2 (by decide)
    rw [hin.2] at h3
    refine ⟨⟨rfl, rfl⟩, ⟨by omega, by omega⟩, ⟨rfl, rfl⟩, ⟨b, i, o, f' + 1⟩, br_intro (λc4 => ?_) (λc4 => ?_), ?_⟩
    · rw [c4, fo_ct] at h3
      cases hE2 : x.E x.w (i + 1) with
      | none => rw [hE2] at h3; cases h3
      | some p =>
        obtain ⟨c, j⟩ := p
        rw [hE2, Option.bind_some] at h3
        cases hd : (decide (c < 65536) && decide (j ≤ 1048576)) with
        | false => rw [hd] at h3; cases h3
        | true =>
          rw [hd, fo_ct] at h3
          have hd2 : c < 65536 ∧ j ≤ 1048576 := by simpa using hd
          exact ⟨hE, rfl, ⟨x.E, x.b, x.w, i + 1, c, j⟩, rfl, rfl, ⟨hw, by dsimp only; omega, hE2⟩, fo_tv, λ_ _ => ⟨⟨⟨b, i, o, f' + 1⟩, j, c⟩, ⟨⟨hd2.2, hd2.1, ⟨h2, Nat.succ_pos _⟩, h3⟩, rfl⟩, ⟨rfl, rfl, rfl, fo_tv⟩, Ent.pick [0, 1, 2] rfl rfl⟩⟩
    · rw [c4, fo_cf] at h3
      exact ⟨⟨⟨b, i, o, f' + 1⟩, i + 1, unitN x.w i⟩, ⟨⟨by dsimp only; omega, unitN_lt _ _, ⟨h2, Nat.succ_pos _⟩, h3⟩, rfl⟩, ⟨rfl, rfl, rfl, fo_tv⟩, Ent.pick [0, 1, 2] rfl rfl⟩
    clear h1 h2 h3 c1 c2 hin h4
    rintro ⟨⟨b', i', o', g⟩, k, c⟩ js ⟨⟨h1, h2, ⟨h3, h4⟩, h5⟩, e⟩
    have e : TfS.mk b' i' o' g = ⟨b, i, o, f' + 1⟩ := e
    cases e
    dsimp only at h1 h2 h3 h5 ⊢
    have hm : c / 256 < 256 := by omega
    have hl : ∀ u ∈ [c / 256, c % 256], u < 256 := by
      intro u hu
      simp only [List.mem_cons, List.not_mem_nil, or_false] at hu
      omega
    refine ⟨cv_u8 rfl rfl rfl, c / 256, by rw [shr8], fo_tv, cv_u8 rfl rfl rfl, c, rfl, fo_tv, λd => ⟨wrp_ok, rfl, ⟨b, o, ⟨d, 0, none⟩, 2, [c / 256, c % 256]⟩, rfl, rfl, ⟨by simp only [fo_lc, List.length_nil]; omega, hl⟩, Seg.rest (j := 10050) (by simp) ?_, λ_ _ => ⟨⟨b, k, o ++ btL [c / 256, c % 256], f'⟩, ⟨h1, by rw [sz_app]; simp only [fo_lc, List.length_nil]; omega, h5⟩, ⟨rfl, rfl, fo_tv⟩, Ent.pick [0, 1, 2] rfl rfl, fo_ls _⟩⟩⟩
    rw [Nat.mod_eq_of_lt hm]
    exact Seg.cells (λj u hj => by rw [fo_za]; exact hj)
  · have c1 : (jpk x.w i != 34) = false := c1
    rw [jtx, c1, fo_cf] at h3
    have h3 := Option.some.inj h3
    have e1 : i + 1 = x.j := (Prod.mk.inj h3).1
    have e2 : o = x.o := (Prod.mk.inj h3).2
    refine ⟨⟨rfl, rfl⟩, ⟨by omega, by omega⟩, ⟨rfl, rfl⟩, bsp_ok, rfl, ⟨b, o, ⟨#[]⟩, 0⟩, rfl, rfl, by dsimp only; omega, fo_tv, λ_ _ => ⟨(), fo_tv, by rw [e2] <;> rfl, Ent.pick [1, 2] rfl (by show _ = ofL [jrA x.b x.w x.j, F]; rw [← e1] <;> rfl)⟩⟩
theorem txf_ok : fo_k 128 txfC := fo 42 Tryz.func128 txfOv [(7, 3, OH.q [LH.aq (1 : Nat)]), (11, 3, OH.q [LH.aq (1 : Nat)]), (7, 7, OH.w [LH.aq (1 : Nat)]), (11, 7, OH.w [LH.aq (1 : Nat)])] txfInv txfCut fo_o [] txf_vc
end
section
open Go
set_option maxHeartbeats 1000000
def jdg (c : Int) : Bool := decide (48 ≤ c) && decide (c ≤ 57)
abbrev dgfC : Con where
  X := JrX
  Y := Unit
  args x := [.pointer (some ⟨x.b, 0, none⟩)]
  pre x := [jrA x.b x.w x.i]
  cond x := x.w.size ≤ 1048576 ∧ x.i ≤ 1048575 ∧ jdg (jpk x.w x.i) = true ∧ jdg (jpk x.w (x.i + 1)) = false
  rdc _ _ := True
  rel _ _ := True
  val _ _ := .returned (.tuple #[])
  post x _ := [jrA x.b x.w (x.i + 1)]
structure DfS where
  i : Nat
def dgfInv (x : JrX) (F : Atom) : Nat → Option Inv := fun
  | 0 => some { X := DfS, P := λd => d.i = x.i ∨ d.i = x.i + 1, mu := λd => x.i + 2 - d.i, lv := λ_ => [(0, .pointer (some ⟨x.b, 0, none⟩)), (2, .int .i64 x.i)], st := λd => [jrA x.b x.w d.i, F] }
  | _ => none
def dgfCut (x : JrX) (F : Atom) : Nat → Option Inv := fun
  | 3 => some { X := Unit, P := λ_ => True, mu := λ_ => 0, lv := λ_ => [(0, .pointer (some ⟨x.b, 0, none⟩)), (2, .int .i64 x.i)], st := λ_ => [jrA x.b x.w (x.i + 1), F] }
  | _ => none
def q212 (e0 : JrX) := fo_vp (q148 e0) = fo_vp (q148 e0) ∧ fo_vi ↑e0.i = fo_vi ↑e0.i ∧ True
abbrev q143 (x : JrX) (a : DfS) (F : Atom) := [(0, fo_cl x.b [fo_vs x.w, fo_vi ↑a.i] 138), (1, F)]
def T94 (e0 : JrX) (e1 : Atom) (ss : St) := ∃ (z : Unit), True ∧ q212 e0 ∧ Ent ss [(0, fo_cl e0.b (q66 e0) 138), (1, e1)]
theorem dgf_vc (x : JrX) (F : Atom) (hc : dgfC.cond x) (hr : dgfC.rdc x F) :
 fo_sm x.b 1 ∧ ((∃(a : DfS), (a.i = x.i ∨ a.i = x.i + 1) ∧ q212 x ∧ Ent [(0, fo_cl x.b (q380 x) 138), (1, F)] (q143 x a F)) ∧ fo_vA λ(g : DfS) _ => (g.i = x.i ∨ g.i = x.i + 1) → T87 [fo_vp (q148 x)] (fo_aR (q143 x g F) []) (λe d => fo_Bd (jpk e.w e.i ≥ 48) (T87 [fo_vp (q148 x)] (fo_aR (q143 x g F) []) (λc b => fo_Bd (jpk c.w c.i ≤ 57) (fo_sm x.b 1 ∧ fo_rI ((g.i : Int) + 1) ∧ fo_sm x.b 1 ∧ ∃(a : DfS), (a.i = x.i ∨ a.i = x.i + 1) ∧ q212 x ∧ Ent [(0, fo_cl x.b [fo_vs x.w, fo_vi ((g.i : Int) + 1)] 138), (1, F)] (q143 x a F) ∧ x.i + 2 - a.i < x.i + 2 - g.i) (T94 x F (q143 x g F)))) (T94 x F (q143 x g F)))) ∧ fo_vA λ(d : Unit) _ => True → fo_sm x.b 1 ∧ Br ((↑(x.i + 1) : Int) == (x.i : Int)) (T88 [fo_vp (q148 x)] (λb a => Done dgfC x F q73 [(0, fo_cl x.b (q66 x) 138), (1, F)])) (Done dgfC x F q73 [(0, fo_cl x.b (q66 x) 138), (1, F)]) := by
  delta q148 q212 q380 q143 T87 q66 T94 T88 q73 fo_aR fo_sm fo_rI fo_C1 fo_C2 fo_vi fo_vs fo_vp fo_cl fo_Bd fo_rt fo_vA
  obtain ⟨h1, h2, h3, h4⟩ := hc
  have J : ∀ k : Nat, JrIn ⟨x.b, x.w, k, ⟨#[]⟩, 0⟩ (.pred (rest (ofL [jrA x.b x.w k, F]) [])) := λk => JrIn.sub (sub_rest 0 (by simp) rfl) (.jr ⟨x.b, x.w, k, ⟨#[]⟩, 0⟩)
  have g3 : 48 ≤ jpk x.w x.i ∧ jpk x.w x.i ≤ 57 := by simpa [jdg] using h3
  refine ⟨⟨rfl, rfl⟩, ⟨⟨⟨x.i⟩, .inl rfl, ⟨rfl, rfl, fo_tv⟩, Ent.pick [0, 1] rfl rfl⟩, ?_⟩, ?_⟩
  · rintro ⟨i⟩ js hi
    have hi : i = x.i ∨ i = x.i + 1 := hi
    have ok : JrX.mk x.b x.w i ⟨#[]⟩ 0 = ⟨x.b, x.w, i, ⟨#[]⟩, 0⟩ := rfl
    refine ⟨pkf_ok, rfl, ⟨x.b, x.w, i, ⟨#[]⟩, 0⟩, rfl, rfl, ⟨h1, by dsimp only; omega⟩, J i, λ_ _ => br_decide (λc1 => ⟨pkf_ok, rfl, ⟨x.b, x.w, i, ⟨#[]⟩, 0⟩, rfl, rfl, ⟨h1, by dsimp only; omega⟩, J i, λ_ _ => br_decide (λc2 => ?_) (λc2 => ?_)⟩) (λc1 => ?_)⟩
    · dsimp only at c1 c2 ⊢
      have hi : i = x.i := by
        rcases hi with hi | hi
        · exact hi
        · rw [hi] at c1 c2
          unfold jdg at h4
          rw [fo_dt c1, fo_dt c2] at h4
          cases h4
      subst hi
      exact ⟨⟨rfl, rfl⟩, ⟨by omega, by omega⟩, ⟨rfl, rfl⟩, ⟨x.i + 1⟩, .inr rfl, ⟨rfl, rfl, fo_tv⟩, Ent.pick [0, 1] rfl rfl, by dsimp only; omega⟩
    · rcases hi with hi | hi
      · dsimp only at c2
        rw [hi] at c2
        exact (c2 g3.2).elim
      · exact ⟨(), fo_tv, ⟨rfl, rfl, fo_tv⟩, Ent.pick [0, 1] rfl (by rw [hi] <;> rfl)⟩
    · rcases hi with hi | hi
      · dsimp only at c1
        rw [hi] at c1
        exact (c1 g3.1).elim
      · exact ⟨(), fo_tv, ⟨rfl, rfl, fo_tv⟩, Ent.pick [0, 1] rfl (by rw [hi] <;> rfl)⟩
  · intro _ js _
    have e : (((x.i + 1 : Nat) : Int) == (x.i : Int)) = false := beq_false_of_ne (by omega)
    rw [e]
    exact ⟨⟨rfl, rfl⟩, (), fo_tv, rfl, Ent.pick [0, 1] rfl rfl⟩
theorem dgf_ok : fo_k 182 dgfC := fo 30 Tryz.func182 (λ_ _ => [(1, 1, .c pkfC [] []), (1, 5, .c pkfC [] []), (4, 1, .c nvrC [] [])]) [(0, 3, OH.q [LH.aq (0 : Nat)]), (2, 3, OH.q [LH.aq (0 : Nat)]), (3, 3, OH.q [LH.aq (0 : Nat)]), (2, 7, OH.w [LH.aq (0 : Nat)])] dgfInv dgfCut fo_o [] dgf_vc
abbrev nn1C (K : Ctx) : Con := { nnC K with cond := λx => x.s = ⟨#[0, 49]⟩ }
theorem two_bytes : ∀ {s : ByteArray}, s.size = 2 → s = ⟨#[UInt8.ofNat (bt s 0), UInt8.ofNat (bt s 1)]⟩
  | ⟨⟨[x, y]⟩⟩, _ => by simp [bt]
  | ⟨⟨[]⟩⟩, h => by cases h
  | ⟨⟨[_]⟩⟩, h => by cases h
  | ⟨⟨_ :: _ :: _ :: _⟩⟩, h => by simp [ByteArray.size] at h
theorem cg_one {w : ByteArray} {i : Nat} (h : jpk w i = 49) : cgV w i (i + 1) = ⟨#[0, 49]⟩ := by
  unfold jpk at h
  cases hd : decide (i < w.size / 2) with
  | false => rw [hd] at h; cases h
  | true =>
    have hi := fo_od1 hd
    rw [hd, fo_ct] at h
    unfold unitN at h
    rw [hd, fo_ct] at h
    unfold cgV
    rw [show min i (w.size / 2) = i by omega, show min (i + 1) (w.size / 2) = i + 1 by omega, fo_dt (show i < i + 1 by omega), fo_ct]
    have e := two_bytes (s := w.extract (2 * i) (2 * (i + 1))) (by rw [fo_se]; omega)
    rw [e, bt_extr (by omega) (by omega), bt_extr (by omega) (by omega), Nat.add_zero, show bt w (2 * i) = 0 by omega, show bt w (2 * i + 1) = 49 by omega] <;> rfl
structure NrfX where
  K : Ctx
  b : Nat
  w : ByteArray
  i : Nat
def nrfV (x : NrfX) : Value := .agg #[.int .i64 3, .float .f64 (x.K.nv (cgV x.w x.i (x.i + 1))), .string ⟨#[]⟩, .int .i64 0]
abbrev nrfC : Con where
  X := NrfX
  Y := Unit
  args x := [.pointer (some ⟨x.b, 0, none⟩)]
  pre x := [jrA x.b x.w x.i]
  cond x := (x.w.size ≤ 1048576 ∧ x.i ≤ 1048575 ∧ fo_k 184 (nn1C x.K)) ∧ jpk x.w x.i = 49 ∧ jpk x.w (x.i + 1) = 125
  rdc x F := x.K.rd F
  rel _ _ := True
  val x _ := .returned (nrfV x)
  post x _ := [jrA x.b x.w (x.i + 1)]
  rmono x _ _ hs h := x.K.mono h hs
abbrev pkkC (c : Int) : Con where
  X := JrX
  Y := Unit
  args x := [.pointer (some ⟨x.b, 0, none⟩)]
  pre _ := []
  cond x := x.w.size ≤ 1048576 ∧ x.i ≤ 1048576 ∧ jpk x.w x.i = c
  rdc x F := JrIn x F
  rel _ _ := True
  val _ _ := .returned (.int .i64 c)
  post _ _ := []
  rmono _ _ _ hs h := h.sub hs
theorem pkk_ok {c : Int} : fo_k 83 (pkkC c) := ⟨λx F I w hc hr hs => (pkf_ok.h x F I w ⟨hc.1, hc.2.1⟩ hr hs).mono λe w' ⟨z, J, k1, k2, k3, k4, k5⟩ => ⟨z, J, k1, by rw [k2]; show returned (.int .i64 (jpk x.w x.i)) = returned (.int .i64 c); rw [hc.2.2], k3, k4, k5⟩⟩
abbrev nfvC : Con where
  X := Nat
  Y := Unit
  args x := [.float .f64 x]
  pre _ := []
  cond _ := True
  rdc _ _ := True
  rel _ _ := True
  val x _ := .returned (.agg #[.int .i64 3, .float .f64 x, .string ⟨#[]⟩, .int .i64 0])
  post _ _ := []
abbrev q216 (x : Nat) : List Value := [fo_vi 3, float f64 x, fo_vs ⟨#[]⟩, fo_vi 0]
theorem nfv_vc (x : Nat) (F : Atom) (hc : nfvC.cond x) (hr : nfvC.rdc x F) :
 ∀(a : Nat), fo_sm a 0 ∧ fo_sm a 1 ∧ fo_sm a 2 ∧ fo_sm a 3 ∧ fo_sm a 0 ∧ fo_sm a 1 ∧ fo_sm a 2 ∧ fo_sm a 3 ∧ Done nfvC x F (fo_rt (agg ⟨q216 x⟩)) [(0, F), (1000, fo_cl a (q216 x) 30)] := by
  delta q216 fo_sm fo_vi fo_vs fo_cl fo_rt
  exact λb => ⟨⟨rfl, rfl⟩, ⟨rfl, rfl⟩, ⟨rfl, rfl⟩, ⟨rfl, rfl⟩, ⟨rfl, rfl⟩, ⟨rfl, rfl⟩, ⟨rfl, rfl⟩, ⟨rfl, rfl⟩, (), fo_tv, rfl, Ent.pick [0] rfl rfl⟩
theorem nfv_ok : fo_k 183 nfvC := fo 5 Tryz.func183 (λ_ _ => [(0, 0, .n 1000), (1, 2, .w [.aq 1000, .aq 1000, .aq 1000, .aq 1000])]) [] fo_i fo_i fo_o [LH.aq 1000, LH.aq 1000, LH.aq 1000, LH.aq 1000] nfv_vc
def nrfOv (_x : NrfX) (_F : Atom) : List (Nat × Nat × OH) := [(0, 0, .n 1000), (2, 1, .c (pkkC 49) [] []), (4, 1, .c (pkkC 49) [] []), (6, 1, .c dgfC [0] [0]), (7, 1, .c (pkkC 125) [] []), (10, 1, .c (pkkC 125) [] []), (10, 5, .c (pkkC 125) [] []), (15, 3, .q [.ex 0 .str]), (15, 8, .q [.ex 0 (.int .i64)]), (15, 9, .c cgC [] []), (15, 10, .c (nn1C _x.K) [] []), (15, 11, .c nfvC [] []), (15, 12, .w [.aq 1000, .aq 1000, .aq 1000, .aq 1000])]
def T95 := fo_C2 83 (pkkC (49 : Int)) (λw0 => w0.w.size ≤ 1048576 ∧ w0.i ≤ 1048576 ∧ jpk w0.w w0.i = 49) JrIn
abbrev q206 (x : NrfX) : List Value := [fo_vp (some ⟨x.b, 0, none⟩)]
abbrev q325 (x : NrfX) (F : Atom) (u : Nat) := fo_aR [(0, fo_cl x.b [fo_vs x.w, fo_vi ↑x.i] 138), (1, F), (1000, fo_cl u q7 30)] []
def T96 := fo_C2 83 (pkkC (125 : Int)) (λw0 => w0.w.size ≤ 1048576 ∧ w0.i ≤ 1048576 ∧ jpk w0.w w0.i = 125) JrIn
abbrev q163 (p : JrX) (F : Atom) (u : Nat) := fo_aR [(0, fo_cl p.b (q66 p) 138), (1, F), (1000, fo_cl u q7 30)] []
theorem nrf_vc (x : NrfX) (F : Atom) (hc : nrfC.cond x) (hr : nrfC.rdc x F) :
 ∀(u : Nat), fo_sm x.b 1 ∧ T95 (q206 x) (q325 x F u) (λt s => T95 (q206 x) (q325 x F u) (λr q => fo_C3 182 dgfC (λp => p.w.size ≤ 1048576 ∧ p.i ≤ 1048575 ∧ jdg (jpk p.w p.i) = true ∧ jdg (jpk p.w (p.i + 1)) = false) (q206 x) [fo_cl x.b [fo_vs x.w, fo_vi ↑x.i] 138] (λp o => T96 (q206 x) (q163 p F u) (λn m => T96 (q206 x) (q163 p F u) (λl k => T96 (q206 x) (q163 p F u) (λj i => true = true ∧ T25 (fo_cl p.b (q66 p) 138) ⟨x.b, 0, none⟩ (λh => T59 (fo_cl p.b (q66 p) 138) ⟨x.b, 1, none⟩ (λg => T89 [fo_vs h, fo_vi ↑x.i, fo_vi g] (λf e => fo_C2 184 (nn1C x.K) (λd => d.s = (ByteArray.mk #[0, 49])) (λ_ rr => x.K.3 rr) [fo_vs (cgV f.w f.i f.j)] (q163 p F u) (λd c => fo_C0 183 nfvC [float f64 (x.K.nv d.s)] (λb a => fo_sm u 0 ∧ fo_sm u 1 ∧ fo_sm u 2 ∧ fo_sm u 3 ∧ fo_sm u 0 ∧ fo_sm u 1 ∧ fo_sm u 2 ∧ fo_sm u 3 ∧ Done nrfC x F (fo_rt (agg ⟨q216 b⟩)) [(0, fo_cl p.b (q66 p) 138), (1, F), (1000, fo_cl u (q216 b) 30)]))))))))))) := by
  delta T95 q206 q7 q325 T96 q66 q163 T25 T59 T89 q216 fo_aR fo_sm fo_C0 fo_C1 fo_C2 fo_C3 fo_vi fo_vs fo_vp fo_cl fo_rt
  obtain ⟨⟨h1, h2, hN⟩, h3, h4⟩ := hc
  have hr : x.K.rd F := hr
  have J : ∀ (k : Nat) (A : Atom), JrIn ⟨x.b, x.w, k, ⟨#[]⟩, 0⟩ (.pred (rest [(0, jrA x.b x.w k), (1, F), (1000, A)] [])) := λk A => JrIn.sub (sub_rest 0 (by simp) rfl) (.jr ⟨x.b, x.w, k, ⟨#[]⟩, 0⟩)
  intro b
  exact ⟨⟨rfl, rfl⟩, pkk_ok, rfl, ⟨x.b, x.w, x.i, ⟨#[]⟩, 0⟩, rfl, rfl, ⟨h1, by dsimp only; omega, h3⟩, J _ _, λ_ _ => ⟨pkk_ok, rfl, ⟨x.b, x.w, x.i, ⟨#[]⟩, 0⟩, rfl, rfl, ⟨h1, by dsimp only; omega, h3⟩, J _ _, λ_ _ => ⟨dgf_ok, rfl, ⟨x.b, x.w, x.i, ⟨#[]⟩, 0⟩, rfl, rfl, ⟨h1, h2, by rw [show jpk x.w x.i = 49 from h3] <;> rfl, by rw [show jpk x.w (x.i + 1) = 125 from h4] <;> rfl⟩, fo_tv, λ_ _ =>
    ⟨pkk_ok, rfl, ⟨x.b, x.w, x.i + 1, ⟨#[]⟩, 0⟩, rfl, rfl, ⟨h1, by dsimp only; omega, h4⟩, J _ _, λ_ _ => ⟨pkk_ok, rfl, ⟨x.b, x.w, x.i + 1, ⟨#[]⟩, 0⟩, rfl, rfl, ⟨h1, by dsimp only; omega, h4⟩, J _ _, λ_ _ => ⟨pkk_ok, rfl, ⟨x.b, x.w, x.i + 1, ⟨#[]⟩, 0⟩, rfl, rfl, ⟨h1, by dsimp only; omega, h4⟩, J _ _, λ_ _ =>
    ⟨rfl, x.w, Look.cells rfl, ((x.i + 1 : Nat) : Int), Look.cells rfl, cg_ok, rfl, ⟨x.w, x.i, x.i + 1⟩, rfl, rfl, ⟨h1, by dsimp only; omega, by dsimp only; omega⟩, fo_tv, λ_ _ => ⟨hN, rfl, ⟨cgV x.w x.i (x.i + 1)⟩, rfl, rfl, cg_one h3, x.K.mono hr (sub_rest 1 (by simp) rfl), λ_ _ => ⟨nfv_ok, rfl, x.K.nv (cgV x.w x.i (x.i + 1)), rfl, rfl, fo_tv, fo_tv, λ_ _ => ⟨⟨rfl, rfl⟩, ⟨rfl, rfl⟩, ⟨rfl, rfl⟩, ⟨rfl, rfl⟩, ⟨rfl, rfl⟩, ⟨rfl, rfl⟩, ⟨rfl, rfl⟩, ⟨rfl, rfl⟩, (), fo_tv, rfl, Ent.pick [0, 1] rfl rfl⟩⟩⟩⟩⟩⟩⟩⟩⟩⟩
theorem nrf_ok : fo_k 131 nrfC := fo 86 Tryz.func131 nrfOv [(1, 3, OH.q [LH.aq (0 : Nat)])] fo_i fo_i fo_o [LH.aq 1000, LH.aq 1000, LH.aq 1000, LH.aq 1000] nrf_vc
end
section
open Go
set_option maxHeartbeats 1000000
def lfL (v : Pv) : List Value := [.int .i64 v.k, .float .f64 v.f, .string v.s, .int .i64 0, .bool false, .slice none 0 0, .slice none 0 0, .bool false]
def lfV (v : Pv) : Value := .agg (lfL v).toArray
structure VtX where
  E : EscF
  b : Nat
  w : ByteArray
  i : Nat
  d : Int
  j : Nat
  o : ByteArray
abbrev vtC : Con where
  X := VtX
  Y := Unit
  args x := [.pointer (some ⟨x.b, 0, none⟩), .int .i64 x.d]
  pre x := [jrA x.b x.w x.i]
  cond x := (x.w.size ≤ 1048576 ∧ x.i ≤ 1048575 ∧ fo_k 180 (esfC x.E)) ∧ jpk x.w x.i = 34 ∧ jtx x.E x.w (x.w.size + 1) (x.i + 1) ⟨#[]⟩ = some (x.j, x.o) ∧ x.j ≤ 1048576 ∧ isBk (jpk x.w x.j) = false
  rdc _ _ := True
  rel _ _ := True
  val x _ := .returned (lfV (.t x.o))
  post x _ := [jrA x.b x.w x.j]
def T97 := fo_C2 126 blfC (λw0 => w0.w.size ≤ 1048576 ∧ w0.i ≤ 1048576 ∧ isBk (jpk w0.w w0.i) = false) JrIn
abbrev q304 (x : VtX) : List Value := [fo_vp (some ⟨x.b, 0, none⟩)]
abbrev q3 : List Value := [fo_vi 0, float f64 0, fo_vs ⟨#[]⟩, fo_vi 0, fo_vb false, fo_vl none 0 0, fo_vl none 0 0, fo_vb false]
def T98 := fo_C2 83 (pkkC (34 : Int)) (λw0 => w0.w.size ≤ 1048576 ∧ w0.i ≤ 1048576 ∧ jpk w0.w w0.i = 34) JrIn
def T99 := fo_C3 128 txfC (λw0 => (w0.w.size ≤ 1048576 ∧ w0.i ≤ 1048575 ∧ fo_k 180 (esfC w0.E)) ∧ jpk w0.w w0.i = 34 ∧ jtx w0.E w0.w (w0.w.size + 1) (w0.i + 1) q34 = some (w0.j, w0.o))
abbrev q315 (f : TxfX) : List Value := [fo_vs f.w, fo_vi ↑f.j]
abbrev q107 (d : ByteArray) : List Value := [fo_vi 4, float f64 0, fo_vs d, fo_vi 0, fo_vb false, fo_vl none 0 0, fo_vl none 0 0, fo_vb false]
theorem vt_vc (x : VtX) (F : Atom) (hc : vtC.cond x) (hr : vtC.rdc x F) :
 ∀(l : Nat), T97 (q304 x) (fo_aR [(0, fo_cl x.b [fo_vs x.w, fo_vi ↑x.i] 138), (1, F), (1000, fo_cl l q3 141)] []) (λk j => ∀(i : Nat), fo_s5 i (fo_sm i 5 ∧ fo_sm i 6 ∧ fo_sm i 7 ∧ T98 (q304 x) (fo_aR [(0, fo_cl x.b [fo_vs x.w, fo_vi ↑x.i] 138), (1, F), (1000, fo_cl l q3 141), (2001, fo_cl i q3 141)] []) (λh g => T99 (q304 x) [fo_cl x.b [fo_vs x.w, fo_vi ↑x.i] 138] (λf e => T69 [fo_vs f.o] (λd c => fo_sm i 0 ∧ fo_sm i 1 ∧ fo_sm i 2 ∧ fo_sm i 3 ∧ T97 (q304 x) (fo_aR [(0, fo_cl f.b (q315 f) 138), (1, F), (1000, fo_cl l q3 141), (2001, fo_cl i (q107 d) 141)] []) (λb a => fo_s5 i (fo_sm i 5 ∧ fo_sm i 6 ∧ fo_sm i 7 ∧ fo_s5 l (fo_sm l 5 ∧ fo_sm l 6 ∧ fo_sm l 7 ∧ fo_s5 l (fo_sm l 5 ∧ fo_sm l 6 ∧ fo_sm l 7 ∧ Done vtC x F (fo_rt (agg ⟨q107 d⟩)) [(0, fo_cl f.b (q315 f) 138), (1, F), (1000, fo_cl l (q107 d) 141), (2001, fo_cl i (q107 d) 141)]))))))))) := by
  delta T97 q304 q3 T98 q34 T99 T69 q315 q107 fo_aR fo_sm fo_s5 fo_C0 fo_C2 fo_C3 fo_vi fo_vs fo_vb fo_vp fo_vl fo_cl fo_rt
  obtain ⟨⟨h1, h2, hE⟩, h3, h4, h5, h6⟩ := hc
  intro b
  exact ⟨blf_ok, rfl, ⟨x.b, x.w, x.i, ⟨#[]⟩, 0⟩, rfl, rfl, ⟨h1, by dsimp only; omega, by rw [show jpk x.w x.i = 34 from h3] <;> rfl⟩, JrIn.sub (sub_rest 0 (by simp) rfl) (.jr ⟨x.b, x.w, x.i, ⟨#[]⟩, 0⟩), λ_ _ b1 => ⟨⟨rfl, rfl⟩, ⟨rfl, rfl⟩, ⟨rfl, rfl⟩, ⟨rfl, rfl⟩, ⟨rfl, rfl⟩, ⟨rfl, rfl⟩, ⟨rfl, rfl⟩, ⟨rfl, rfl⟩, pkk_ok, rfl, ⟨x.b, x.w, x.i, ⟨#[]⟩, 0⟩, rfl, rfl, ⟨h1, by dsimp only; omega, h3⟩, JrIn.sub (sub_rest 0 (by simp) rfl) (.jr ⟨x.b, x.w, x.i, ⟨#[]⟩, 0⟩), λ_ _ => ⟨txf_ok, rfl, ⟨x.E, x.b, x.w, x.i, x.j, x.o⟩, rfl, rfl, ⟨⟨h1, h2, hE⟩, h3, h4⟩, fo_tv, λ_ _ => ⟨tf_ok, rfl, x.o, rfl, rfl, fo_tv, fo_tv, λ_ _ => ⟨⟨rfl, rfl⟩, ⟨rfl, rfl⟩, ⟨rfl, rfl⟩, ⟨rfl, rfl⟩, blf_ok, rfl, ⟨x.b, x.w, x.j, ⟨#[]⟩, 0⟩, rfl, rfl, ⟨h1, h5, h6⟩, JrIn.sub (sub_rest 0 (by simp) rfl) (.jr ⟨x.b, x.w, x.j, ⟨#[]⟩, 0⟩), λ_ _ => ⟨⟨rfl, rfl⟩, ⟨rfl, rfl⟩, ⟨rfl, rfl⟩, ⟨rfl, rfl⟩, ⟨rfl, rfl⟩, ⟨rfl, rfl⟩, ⟨rfl, rfl⟩, ⟨rfl, rfl⟩, ⟨rfl, rfl⟩, ⟨rfl, rfl⟩, ⟨rfl, rfl⟩, ⟨rfl, rfl⟩, ⟨rfl, rfl⟩, ⟨rfl, rfl⟩, ⟨rfl, rfl⟩, ⟨rfl, rfl⟩, ⟨rfl, rfl⟩, ⟨rfl, rfl⟩, ⟨rfl, rfl⟩, ⟨rfl, rfl⟩, ⟨rfl, rfl⟩, ⟨rfl, rfl⟩, ⟨rfl, rfl⟩, ⟨rfl, rfl⟩, (), fo_tv, rfl, Ent.pick [0, 1] rfl rfl⟩⟩⟩⟩⟩⟩
theorem vt_ok : fo_k 82 vtC := fo 57 Tryz.func82 (λ_ _ => [(0, 0, .n 1000), (1, 1, .c blfC [] []), (2, 1, .n 2001), (2, 2, .w [.aq 2001, .aq 2001, .aq 2001, .aq 2001, .aq 2001, .aq 2001, .aq 2001, .aq 2001]), (3, 1, .c (pkkC 34) [] []), (10, 1, .c txfC [0] [0]), (10, 2, .c tfC [] []), (10, 4, .w [.aq 2001, .aq 2001, .aq 2001, .aq 2001]), (17, 1, .c blfC [] []), (18, 1, .w [.aq 1000, .aq 1000, .aq 1000, .aq 1000, .aq 1000, .aq 1000, .aq 1000, .aq 1000])]) [(18, 0, OH.q [LH.aq (2001 : Nat), LH.aq (2001 : Nat), LH.aq (2001 : Nat), LH.aq (2001 : Nat), LH.aq (2001 : Nat), LH.aq (2001 : Nat), LH.aq (2001 : Nat), LH.aq (2001 : Nat)])] fo_i fo_i fo_o [LH.aq 1000, LH.aq 1000, LH.aq 1000, LH.aq 1000, LH.aq 1000, LH.aq 1000, LH.aq 1000, LH.aq 1000] vt_vc
def lfL0 : List Value := [.int .i64 0, .float .f64 0, .string ⟨#[]⟩, .int .i64 0, .bool false, .slice none 0 0, .slice none 0 0, .bool false]
structure VnX where
  K : Ctx
  b : Nat
  w : ByteArray
  i : Nat
  d : Int
def vnV (x : VnX) : Pv := .n (x.K.nv (cgV x.w x.i (x.i + 1)))
abbrev vnC : Con where
  X := VnX
  Y := Unit
  args x := [.pointer (some ⟨x.b, 0, none⟩), .int .i64 x.d]
  pre x := [jrA x.b x.w x.i]
  cond x := (x.w.size ≤ 1048576 ∧ x.i ≤ 1048575 ∧ fo_k 184 (nn1C x.K)) ∧ jpk x.w x.i = 49 ∧ jpk x.w (x.i + 1) = 125 ∧ cgV x.w x.i (x.i + 4) ≠ wideV ⟨#[110, 117, 108, 108]⟩ ∧ cgV x.w x.i (x.i + 4) ≠ wideV ⟨#[116, 114, 117, 101]⟩ ∧ cgV x.w x.i (x.i + 5) ≠ wideV ⟨#[102, 97, 108, 115, 101]⟩
  rdc x F := x.K.rd F ∧ Utf F
  rel _ _ := True
  val x _ := .returned (lfV (vnV x))
  post x _ := [jrA x.b x.w (x.i + 1)]
  rmono x _ _ hs h := ⟨x.K.mono h.1 hs, h.2.sub hs⟩
abbrev q268 (x : VnX) : Option Addr := some ⟨x.b, 0, none⟩
abbrev q71 (x : VnX) (F : Atom) (p m : Nat) := [(0, fo_cl x.b [fo_vs x.w, fo_vi ↑x.i] 138), (1, F), (1000, fo_cl p q3 141), (2001, fo_cl m q3 141)]
def T100 := fo_C2 129 wrdC2 (λw0 => w0.w.size ≤ 1048576 ∧ w0.i ≤ 1048576 ∧ w0.s.size ≤ 1048576 ∧ cgV w0.w w0.i (w0.i + w0.s.size) ≠ wideV w0.s) (λw0 w1 => JrIn w0 w1 ∧ Utf w1)
abbrev q68 (d : NrfX) : List Value := [fo_vi 3, float f64 (d.K.nv (cgV d.w d.i (d.i + 1))), fo_vs ⟨#[]⟩, fo_vi 0, fo_vb false, fo_vl none 0 0, fo_vl none 0 0, fo_vb false]
theorem vn_vc (x : VnX) (F : Atom) (hc : vnC.cond x) (hr : vnC.rdc x F) :
 ∀(p : Nat), T97 [fo_vp (q268 x)] (fo_aR [(0, fo_cl x.b [fo_vs x.w, fo_vi ↑x.i] 138), (1, F), (1000, fo_cl p q3 141)] []) (λo n => ∀(m : Nat), fo_s5 m (fo_sm m 5 ∧ fo_sm m 6 ∧ fo_sm m 7 ∧ T95 [fo_vp (q268 x)] (fo_aR (q71 x F p m) []) (λl k => T100 [fo_vp (q268 x), fo_vs ⟨#[110, 117, 108, 108]⟩] (fo_aR (q71 x F p m) []) (λj i => T100 [fo_vp (q268 x), fo_vs ⟨#[116, 114, 117, 101]⟩] (fo_aR (q71 x F p m) []) (λh g => T100 [fo_vp (q268 x), fo_vs ⟨#[102, 97, 108, 115, 101]⟩] (fo_aR (q71 x F p m) []) (λf e => fo_C4 131 nrfC (λd => (d.w.size ≤ 1048576 ∧ d.i ≤ 1048575 ∧ fo_k 184 (nn1C d.K)) ∧ jpk d.w d.i = 49 ∧ jpk d.w (d.i + 1) = 125) (λd rr => d.K.3 rr) (λ_ _ => True) [fo_vp (q268 x)] [fo_cl x.b [fo_vs x.w, fo_vi ↑x.i] 138] (fo_aR (q71 x F p m) [0]) (λd c => fo_sm m 0 ∧ fo_sm m 1 ∧ fo_sm m 2 ∧ fo_sm m 3 ∧ T97 [fo_vp (q268 x)] (fo_aR [(0, fo_cl d.b [fo_vs d.w, fo_vi (↑(d.i + 1) : Int)] 138), (1, F), (1000, fo_cl p q3 141), (2001, fo_cl m (q68 d) 141)] []) (λb a => fo_s5 m (fo_sm m 5 ∧ fo_sm m 6 ∧ fo_sm m 7 ∧ fo_s5 p (fo_sm p 5 ∧ fo_sm p 6 ∧ fo_sm p 7 ∧ fo_s5 p (fo_sm p 5 ∧ fo_sm p 6 ∧ fo_sm p 7 ∧ Done vnC x F (fo_rt (agg ⟨q68 d⟩)) [(0, fo_cl d.b [fo_vs d.w, fo_vi (↑(d.i + 1) : Int)] 138), (1, F), (1000, fo_cl p (q68 d) 141), (2001, fo_cl m (q68 d) 141)]))))))))))) := by
  delta T97 q268 q3 T95 q71 T100 q68 fo_aR fo_sm fo_s5 fo_C2 fo_C4 fo_vi fo_vs fo_vb fo_vp fo_vl fo_cl fo_rt
  obtain ⟨⟨h1, h2, hN⟩, h3, h4, g1, g2, g3⟩ := hc
  obtain ⟨hr, hu⟩ := hr
  have hr : x.K.rd F := hr
  intro b
  refine ⟨blf_ok, rfl, ⟨x.b, x.w, x.i, ⟨#[]⟩, 0⟩, rfl, rfl, ⟨h1, by dsimp only; omega, by rw [show jpk x.w x.i = 49 from h3] <;> rfl⟩, JrIn.sub (sub_rest 0 (by simp) rfl) (.jr ⟨x.b, x.w, x.i, ⟨#[]⟩, 0⟩), λ_ _ b1 => ?_⟩
  have j0 : ∀ (s : ByteArray), JrIn ⟨x.b, x.w, x.i, s, 0⟩ (.pred (rest (ofL [jrA x.b x.w x.i, F] ++ [(1000, .cells b lfL0 141), (2001, .cells b1 lfL0 141)]) [])) := λs => JrIn.sub (sub_rest 0 (by simp) rfl) (JrIn.jr ⟨x.b, x.w, x.i, s, 0⟩)
  exact ⟨⟨rfl, rfl⟩, ⟨rfl, rfl⟩, ⟨rfl, rfl⟩, ⟨rfl, rfl⟩, ⟨rfl, rfl⟩, ⟨rfl, rfl⟩, ⟨rfl, rfl⟩, ⟨rfl, rfl⟩, pkk_ok, rfl, ⟨x.b, x.w, x.i, ⟨#[]⟩, 0⟩, rfl, rfl, ⟨h1, by dsimp only; omega, h3⟩, j0 _, λ_ _ => ⟨wrd2_ok, rfl, ⟨x.b, x.w, x.i, ⟨#[110, 117, 108, 108]⟩, 0⟩, rfl, rfl, ⟨h1, by dsimp only; omega, by dsimp only; decide, g1⟩, ⟨j0 _, Utf.rest (j := 1) (by simp) hu⟩, λ_ _ => ⟨wrd2_ok, rfl, ⟨x.b, x.w, x.i, ⟨#[116, 114, 117, 101]⟩, 0⟩, rfl, rfl, ⟨h1, by dsimp only; omega, by dsimp only; decide, g2⟩, ⟨j0 _, Utf.rest (j := 1) (by simp) hu⟩, λ_ _ => ⟨wrd2_ok, rfl, ⟨x.b, x.w, x.i, ⟨#[102, 97, 108, 115, 101]⟩, 0⟩, rfl, rfl, ⟨h1, by dsimp only; omega, by dsimp only; decide, g3⟩, ⟨j0 _, Utf.rest (j := 1) (by simp) hu⟩, λ_ _ => ⟨nrf_ok, rfl, ⟨x.K, x.b, x.w, x.i⟩, rfl, rfl, ⟨⟨h1, h2, hN⟩, h3, h4⟩, x.K.mono hr (sub_rest 1 (by simp) rfl), λ_ _ => ⟨⟨rfl, rfl⟩, ⟨rfl, rfl⟩, ⟨rfl, rfl⟩, ⟨rfl, rfl⟩, blf_ok, rfl, ⟨x.b, x.w, x.i + 1, ⟨#[]⟩, 0⟩, rfl, rfl, ⟨h1, by dsimp only; omega, by rw [show jpk x.w (x.i + 1) = 125 from h4] <;> rfl⟩, JrIn.sub (sub_rest 0 (by simp) rfl) (.jr ⟨x.b, x.w, x.i + 1, ⟨#[]⟩, 0⟩), λ_ _ => ⟨⟨rfl, rfl⟩, ⟨rfl, rfl⟩, ⟨rfl, rfl⟩, ⟨rfl, rfl⟩, ⟨rfl, rfl⟩, ⟨rfl, rfl⟩, ⟨rfl, rfl⟩, ⟨rfl, rfl⟩, ⟨rfl, rfl⟩, ⟨rfl, rfl⟩, ⟨rfl, rfl⟩, ⟨rfl, rfl⟩, ⟨rfl, rfl⟩, ⟨rfl, rfl⟩, ⟨rfl, rfl⟩, ⟨rfl, rfl⟩, ⟨rfl, rfl⟩, ⟨rfl, rfl⟩, ⟨rfl, rfl⟩, ⟨rfl, rfl⟩, ⟨rfl, rfl⟩, ⟨rfl, rfl⟩, ⟨rfl, rfl⟩, ⟨rfl, rfl⟩, (), fo_tv, rfl, Ent.pick [0, 1] rfl rfl⟩⟩⟩⟩⟩⟩⟩
theorem vn_ok : fo_k 82 vnC := fo 57 Tryz.func82 (λ_ _ => [(0, 0, .n 1000), (1, 1, .c blfC [] []), (2, 1, .n 2001), (2, 2, .w [.aq 2001, .aq 2001, .aq 2001, .aq 2001, .aq 2001, .aq 2001, .aq 2001, .aq 2001]), (3, 1, .c (pkkC 49) [] []), (11, 1, .c wrdC2 [] []), (13, 1, .c wrdC2 [] []), (15, 1, .c wrdC2 [] []), (4, 1, .c nrfC [0] [0]), (4, 3, .w [.aq 2001, .aq 2001, .aq 2001, .aq 2001]), (17, 1, .c blfC [] []), (18, 1, .w [.aq 1000, .aq 1000, .aq 1000, .aq 1000, .aq 1000, .aq 1000, .aq 1000, .aq 1000])]) [(18, 0, OH.q [LH.aq (2001 : Nat), LH.aq (2001 : Nat), LH.aq (2001 : Nat), LH.aq (2001 : Nat), LH.aq (2001 : Nat), LH.aq (2001 : Nat), LH.aq (2001 : Nat), LH.aq (2001 : Nat)])] fo_i fo_i fo_o [LH.aq 1000, LH.aq 1000, LH.aq 1000, LH.aq 1000, LH.aq 1000, LH.aq 1000, LH.aq 1000, LH.aq 1000] vn_vc
end
end Go.Proofs.YtjdabjmjldiodaaGreatDoor
