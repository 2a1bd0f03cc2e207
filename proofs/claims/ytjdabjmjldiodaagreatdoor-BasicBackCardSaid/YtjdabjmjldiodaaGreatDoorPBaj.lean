/- A part of the proof that pennantlaw23.BasicBack answers true at every input. -/
import Derived.Test.YtjdabjmjldiodaaGreatDoorPBai
set_option linter.all false
namespace Go.Proofs.YtjdabjmjldiodaaGreatDoor
set_option maxRecDepth 100000
open Go.Value (int slice string bool pointer agg tuple func float iface nilIface)
open Go.IntKind (i64 u8 u64 i32 u32 u16 i8 i16)
open Go.FloatKind (f64)
open Go.Ending (returned panicked)
section
open Go
set_option maxHeartbeats 1000000
def sExt : ByteArray := ⟨#[101, 120, 116, 101, 114, 110, 97, 108]⟩
def sTyp : ByteArray := ⟨#[104, 116, 116, 112, 58, 47, 47, 119, 119, 119, 46, 119, 51, 46, 111, 114, 103, 47, 84, 82, 47, 115, 99, 120, 109, 108, 47, 35, 66, 97, 115, 105, 99, 72, 84, 84, 80, 69, 118, 101, 110, 116, 80, 114, 111, 99, 101, 115, 115, 111, 114]⟩
abbrev eNul : ByteArray := ⟨#[]⟩
def Hrd.p : Hrd → ByteArray
  | .no _ => eNul
  | .ok p _ _ => p
def Hrd.n : Hrd → ByteArray
  | .no _ => eNul
  | .ok _ n _ => n
def Hrd.k : Hrd → ByteArray
  | .no _ => eNul
  | .ok _ _ _ => sExt
def Hrd.t : Hrd → ByteArray
  | .no _ => eNul
  | .ok _ _ _ => sTyp
def Hrd.d : Hrd → ByteArray
  | .no _ => eNul
  | .ok _ _ d => d
def Hrd.s : Hrd → Nat
  | .no s => s
  | .ok _ _ _ => 200
abbrev hearC : Con where
  X := RqX
  Y := Unit
  args x := [.agg #[.string x.r.m, .string x.r.t, .string x.r.h, .string x.r.y, .string x.r.b]]
  pre _ := []
  cond x := x.r.ok ∧ x.r.b.size ≤ 262144
  rdc _ F := Gl F
  rel _ _ := True
  val x _ := .returned (.tuple #[.string (hearV x.r).p, .agg #[.string (hearV x.r).n, .string (hearV x.r).k, .string eNul, .string eNul, .string (hearV x.r).t, .string eNul, .string (hearV x.r).d], .int .i64 (hearV x.r).s])
  post _ _ := []
  rmono _ _ _ hs h := h.sub hs
def zEv : List Value := [.string eNul, .string eNul, .string eNul, .string eNul, .string eNul, .string eNul, .string eNul]
def evL (n d : ByteArray) : List Value := [.string n, .string sExt, .string eNul, .string eNul, .string sTyp, .string eNul, .string d]
structure HrS where
  b1 : Nat
  b3 : Nat
  b10 : Nat
  nm : ByteArray
  l : List Fld
  ro : Row
  i : Nat
  ow : Row
structure HrS.ok (d : HrS) (r : Req) : Prop where
  hm : (!bEq r.m sPost && !bEq r.m sGet) = false
  hl : flsV r = some d.l
  hn : nmV r d.l = some d.nm
  hr : IsRow 36 2 (fCs d.l) d.ro
  hz : d.l.length ≤ 64
  hi : d.i ≤ d.l.length
  hv : ((d.l.take d.i).all λf => okV f.1 && okV f.2) = true
  ho : IsRow 36 2 (fCs (othV (d.l.take d.i))) d.ow
def reqL (r : Req) : List Value := [.string r.m, .string r.t, .string r.h, .string r.y, .string r.b]
def hrSt (r : Req) (F : Atom) (d : HrS) : List Atom := [F, .cells d.b1 (reqL r) 45, .cells d.b3 zEv 51, .cells d.b10 (evL d.nm eNul) 51, d.ro.A, d.ow.A]
def hearInv (x : RqX) (F : Atom) : Nat → Option Inv := fun
  | 0 => some { X := HrS, P := λd => d.ok x.r, mu := λd => d.l.length - d.i, lv := λd => [(1, .pointer (some ⟨d.b1, 0, none⟩)), (3, .pointer (some ⟨d.b3, 0, none⟩)), (5, .string (cutA (tgV x.r) 63)), (9, .bool true), (10, .pointer (some ⟨d.b10, 0, none⟩)), (13, .slice d.ow.a d.ow.n d.ow.cap), (61, .slice d.ro.a d.ro.n d.ro.cap), (62, .int .i64 d.ro.n), (63, .int .i64 d.i)], st := hrSt x.r F }
  | _ => none
structure Hr0 where
  b1 : Nat
  b3 : Nat
def hearCut (x : RqX) (F : Atom) : Nat → Option Inv := fun
  | 3 => some { X := Hr0, P := λ_ => (!bEq x.r.m sPost && !bEq x.r.m sGet) = false, mu := λ_ => 0, lv := λd => [(1, .pointer (some ⟨d.b1, 0, none⟩)), (3, .pointer (some ⟨d.b3, 0, none⟩))], st := λd => [F, .cells d.b1 (reqL x.r) 45, .cells d.b3 zEv 51] }
  | 13 => some { X := HrS, P := λd => d.ok x.r ∧ d.i = 0 ∧ d.ow = nilRow, mu := λ_ => 0, lv := λd => [(1, .pointer (some ⟨d.b1, 0, none⟩)), (3, .pointer (some ⟨d.b3, 0, none⟩)), (5, .string (cutA (tgV x.r) 63)), (8, .slice d.ro.a d.ro.n d.ro.cap), (9, .bool true), (10, .pointer (some ⟨d.b10, 0, none⟩))], st := hrSt x.r F }
  | _ => none
theorem sdF_size (s : ByteArray) : ∀ (f i : Nat) (o v : ByteArray), i ≤ s.size → sdF s f i o = some v → v.size ≤ o.size + (s.size - i)
  | 0, i, o, v, _, h => by rw [sdF] at h; cases h
  | f + 1, i, o, v, hi, h => by
    rw [sdF] at h
    cases c0 : decide (i < s.size) with
    | false => rw [c0, fo_cf] at h; cases h; exact Nat.le_add_right _ _
    | true =>
      have hlt := fo_od1 c0
      rw [c0, fo_ct] at h
      cases c1 : (bt s i == 43) with
      | true =>
        rw [c1, fo_ct] at h
        have := sdF_size s f _ _ v (by omega) h
        rw [sz_app] at this; simp only [fo_l1] at this; omega
      | false =>
        rw [c1, fo_cf] at h
        cases c2 : (bt s i == 37) with
        | true =>
          rw [c2, fo_ct] at h
          cases c3 : decide (s.size ≤ i + 2) with
          | true => rw [c3, fo_ct] at h; cases h
          | false =>
            have c3 := fo_od0 c3
            rw [fo_df c3, fo_cf] at h
            cases c4 : (decide (sx (bt s (i + 1)) < 0) || decide (sx (bt s (i + 2)) < 0)) with
            | true => rw [c4, fo_ct] at h; cases h
            | false =>
              rw [c4, fo_cf] at h
              have := sdF_size s f _ _ v (by omega) h
              rw [sz_app] at this; simp only [fo_l1] at this; omega
        | false =>
          rw [c2, fo_cf] at h
          have := sdF_size s f _ _ v (by omega) h
          rw [sz_app] at this; simp only [fo_l1] at this; omega
theorem sdV_size {s v : ByteArray} (h : sdV s = some v) : v.size ≤ s.size := by
  have := sdF_size s _ 0 ⟨#[]⟩ v (fo_zl _) h
  exact fo_lt this (by show 0 + (s.size - 0) ≤ s.size; omega)
def FSz (l : List Fld) : Prop := ∀ f ∈ l, f.1.size ≤ 4096 ∧ f.2.size ≤ 4096
theorem fdL_size : ∀ (L : List ByteArray) (l r : List Fld), (∀ p ∈ L, p.size ≤ 4096) → FSz l → fdL L l = some r → FSz r
  | [], l, r, _, h, e => by rw [fdL] at e; cases e; exact h
  | p :: L, l, r, hp, h, e => by
    have hq := hp p fo_mc
    have hp' : ∀ q ∈ L, q.size ≤ 4096 := λq hq => hp q (fo_mm _ hq)
    rw [fdL] at e
    cases c : (p.size == 0) with
    | true => rw [c, fo_ct] at e; exact fdL_size L l r hp' h e
    | false =>
      rw [c, fo_cf] at e
      have ha : (cutA p 61).size ≤ 4096 := by unfold cutA; rw [fo_se]; omega
      have hb : (cutB p 61).size ≤ 4096 := by unfold cutB; rw [fo_se]; omega
      cases u : sdV (cutA p 61) with
      | none => rw [u] at e; cases e
      | some n =>
        cases v : sdV (cutB p 61) with
        | none => rw [u, v] at e; cases e
        | some w =>
          rw [u, v] at e
          refine fdL_size L _ r hp' (λf hf => ?_) e
          rcases List.mem_append.1 hf with hf | hf
          · exact h f hf
          · rw [List.mem_singleton.1 hf]
            exact ⟨fo_lt (sdV_size u) ha, fo_lt (sdV_size v) hb⟩
theorem fdV_size {s : ByteArray} {l : List Fld} (h : fdV s = some l) : FSz l := by
  unfold fdV at h
  cases c : decide (s.size > 4096) with
  | true => rw [c, fo_ct] at h; cases h
  | false =>
    rw [c, fo_cf] at h
    have c := fo_od0 c
    cases u : fdL (pcV s) [] with
    | none => rw [u] at h; cases h
    | some k =>
      rw [u] at h
      dsimp only at h
      cases d : decide (k.length > 32) with
      | true => rw [d, fo_ct] at h; cases h
      | false => rw [d, fo_cf] at h; cases h; exact fdL_size _ _ _ (λp hp => fo_lt (pcF_le _ _ _ p hp) (by omega)) (λ_ h => by cases h) u
theorem flsV_size {r : Req} {l : List Fld} (h : flsV r = some l) : FSz l := by
  unfold flsV at h
  cases u : fdV (cutB (tgV r) 63) with
  | none => rw [u] at h; cases h
  | some a =>
    rw [u] at h
    dsimp only at h
    cases c : frmV r with
    | false => rw [c, fo_cf] at h; cases h; exact fdV_size u
    | true =>
      rw [c, fo_ct] at h
      cases v : fdV r.b with
      | none => rw [v] at h; cases h
      | some m =>
        rw [v] at h
        cases h
        intro f hf
        rcases List.mem_append.1 hf with hf | hf
        · exact fdV_size u f hf
        · exact fdV_size v f hf
theorem fndV_mem {n v : ByteArray} : ∀ {l : List Fld}, fndV n l = some v → ∃ f ∈ l, f.2 = v
  | [], h => by cases h
  | (k, u) :: r, h => by
    rw [fndV] at h
    cases c : (k.toList == n.toList) with
    | true => rw [c, fo_ct] at h; cases h; exact ⟨_, fo_mc, rfl⟩
    | false =>
      rw [c, fo_cf] at h
      obtain ⟨f, h1, h2⟩ := fndV_mem h
      exact ⟨f, fo_mm _ h1, h2⟩
theorem runV_congr {p q : Nat → Bool} {s : ByteArray} (h : ∀ c, c < 256 → p c = q c) : ∀ f i, runV s p f i = runV s q f i := by
  intro f
  induction f with
  | zero => intro i; rfl
  | succ f ih => intro i; rw [runV, runV, h _ (bt_lt' s i), ih]
theorem hasV_blk (n : ByteArray) : hasV n ⟨#[9, 10, 13, 32]⟩ = decide (run1 n (λb => !blk4 b) 0 < n.size) := by
  unfold hasV run1
  rw [runV_congr (q := λb => !blk4 b) (λc hc => ?_)]
  have : ∀ d : Fin 256, (!inS' ⟨#[9, 10, 13, 32]⟩ d.val) = !blk4 d.val := by decide +kernel
  exact this ⟨c, hc⟩
theorem tab4 : (⟨#[9, 10, 13, 32]⟩ : ByteArray).size ≤ 1048576 ∧ 2 ≤ (⟨#[9, 10, 13, 32]⟩ : ByteArray).size := by decide
theorem asc_blk : asc ⟨#[9, 10, 13, 32]⟩ := by
  unfold asc
  decide
theorem hear_405 {r : Req} (h : (!bEq r.m sPost && !bEq r.m sGet) = true) : hearV r = .no 405 := by unfold hearV; rw [h] <;> rfl
theorem hear_nol {r : Req} (h : (!bEq r.m sPost && !bEq r.m sGet) = false) (h1 : flsV r = none) : hearV r = .no 400 := by unfold hearV; rw [h, fo_cf, h1]
theorem hear_non {r : Req} {l : List Fld} (h : (!bEq r.m sPost && !bEq r.m sGet) = false) (h1 : flsV r = some l) (h2 : nmV r l = none) : hearV r = .no 400 := by
  unfold hearV; rw [h, fo_cf, h1]; dsimp only; rw [h2]
theorem hear_nou {r : Req} {d : HrS} (h : d.ok r) (h1 : (d.l.all λf => okV f.1 && okV f.2) = false) : hearV r = .no 400 := by
  unfold hearV; rw [h.hm, fo_cf, h.hl]; dsimp only; rw [h.hn]; dsimp only; rw [h1] <;> rfl
theorem hear_dat {r : Req} {d : HrS} (h : d.ok r) (h1 : (d.l.all λf => okV f.1 && okV f.2) = true) : hearV r = (match datV r d.l with | .inr _ => .no 400 | .inl none => .no 413 | .inl (some e) => .ok (cutA (tgV r) 63) d.nm e) := by
  unfold hearV; rw [h.hm, fo_cf, h.hl]; dsimp only; rw [h.hn]; dsimp only; rw [h1] <;> rfl
theorem all_at {l : List Fld} {i : Nat} {f : Fld} (h : l[i]? = some f) (hb : (okV f.1 && okV f.2) = false) : (l.all λf => okV f.1 && okV f.2) = false := by
  rw [Bool.eq_false_iff]
  intro ha
  have := List.all_eq_true.1 ha f (fo_mg h)
  rw [hb] at this
  cases this
theorem all_take {l : List Fld} {i : Nat} {f : Fld} (h : l[i]? = some f) (h1 : ((l.take i).all λf => okV f.1 && okV f.2) = true) (hb : (okV f.1 && okV f.2) = true) : ((l.take (i + 1)).all λf => okV f.1 && okV f.2) = true := by
  rw [List.take_succ, h, Option.toList_some, List.all_append, h1]
  show ((okV f.1 && okV f.2) && true) = true
  rw [hb] <;> rfl
theorem oth_take {l : List Fld} {i : Nat} {f : Fld} (h : l[i]? = some f) : othV (l.take (i + 1)) = othV (l.take i) ++ (bif bEq f.1 sName then [] else [f]) := by
  unfold othV
  rw [List.take_succ, h, Option.toList_some, List.filter_append]
  congr 1
  rw [List.filter_cons]
  cases bEq f.1 sName <;> rfl
abbrev at5 (j : Nat) : List LH := [.aq j, .aq j, .aq j, .aq j, .aq j]
abbrev at7 (j : Nat) : List LH := [.aq j, .aq j, .aq j, .aq j, .aq j, .aq j, .aq j]
abbrev q6 : List Value := [fo_vs ⟨#[]⟩, fo_vs ⟨#[]⟩, fo_vs ⟨#[]⟩, fo_vs ⟨#[]⟩, fo_vs ⟨#[]⟩, fo_vs ⟨#[]⟩, fo_vs ⟨#[]⟩]
abbrev q347 (F : Atom) (B : Nat) (x : RqX) (A : Nat) := [(0, F), (1, fo_cl B (q3 x) 45), (2, fo_cl A q6 51)]
abbrev q24 : List Value := [fo_vs eNul, fo_vs eNul, fo_vs eNul, fo_vs eNul, fo_vs eNul, fo_vs eNul, fo_vs eNul]
abbrev q289 (e1 : Atom) (z : Hr0) (e0 : RqX) := [(0, e1), (1, fo_cl z.b1 (q3 e0) 45), (2, fo_cl z.b3 q24 51)]
def T87 (e0 : RqX) (e1 : Atom) (v0 v1 : Value) (ss : St) := ∃ (z : Hr0), (!bEq e0.r.m sPost && !bEq e0.r.m sGet) = false ∧ (v0 = fo_vp (some ⟨z.b1, 0, none⟩) ∧ v1 = fo_vp (some ⟨z.b3, 0, none⟩) ∧ True) ∧ Ent ss (q289 e1 z e0)
abbrev q100 := fo_rt (tuple ⟨[fo_vs ⟨#[]⟩, agg ⟨q6⟩, fo_vi 400]⟩)
abbrev q21 (x : RqX) : List Value := [fo_vs ((ByteArray.mk #[72, 84, 84, 80, 46]) ++ x.r.m), fo_vs ⟨#[101, 120, 116, 101, 114, 110, 97, 108]⟩, fo_vs ⟨#[]⟩, fo_vs ⟨#[]⟩, fo_vs ⟨#[104, 116, 116, 112, 58, 47, 47, 119, 119, 119, 46, 119, 51, 46, 111, 114, 103, 47, 84, 82, 47, 115, 99, 120, 109, 108, 47, 35, 66, 97, 115, 105, 99, 72, 84, 84, 80, 69, 118, 101, 110, 116, 80, 114, 111, 99, 101, 115, 115, 111, 114]⟩, fo_vs ⟨#[]⟩, fo_vs ⟨#[]⟩]
def q45 (z : Hr0) (x : RqX) (F : Atom) (q : Nat) (r : FoY) := Same ⟨z.b3, 0, none⟩ z.b3 ∧ Same ⟨z.b3, 1, none⟩ z.b3 ∧ Same ⟨z.b3, 2, none⟩ z.b3 ∧ Same ⟨z.b3, 3, none⟩ z.b3 ∧ Same ⟨z.b3, 4, none⟩ z.b3 ∧ Same ⟨z.b3, 5, none⟩ z.b3 ∧ Same ⟨z.b3, 6, none⟩ z.b3 ∧ Same ⟨z.b3, 0, none⟩ z.b3 ∧ Same ⟨z.b3, 1, none⟩ z.b3 ∧ Same ⟨z.b3, 2, none⟩ z.b3 ∧ Same ⟨z.b3, 3, none⟩ z.b3 ∧ Same ⟨z.b3, 4, none⟩ z.b3 ∧ Same ⟨z.b3, 5, none⟩ z.b3 ∧ Same ⟨z.b3, 6, none⟩ z.b3 ∧ Done hearC x F q100 [(0, F), (1, fo_cl z.b1 (q3 x) 45), (2, fo_cl z.b3 q6 51), (3, fo_cl q (q21 x) 51), (4, r.y.r.A)]
abbrev q280 (a : HrS) : Option Addr := some ⟨a.b1, 0, none⟩
abbrev q281 (a : HrS) : Option Addr := some ⟨a.b3, 0, none⟩
abbrev q263 (a : HrS) : Option Addr := some ⟨a.b10, 0, none⟩
def q98 (z : Hr0) (a : HrS) (u : CtX) (x : RqX) (r : FoY) (q : Nat) := fo_vp (some ⟨z.b1, 0, none⟩) = fo_vp (q280 a) ∧ fo_vp (some ⟨z.b3, 0, none⟩) = fo_vp (q281 a) ∧ fo_vs (cutA u.s u.c) = fo_vs (cutA (tgV x.r) 63) ∧ fo_vl r.y.r.a r.y.r.n r.y.r.cap = fo_vl a.ro.a a.ro.n a.ro.cap ∧ fo_vb r.ok = fo_vb true ∧ fo_vp (q17 q) = fo_vp (q263 a) ∧ True
abbrev q18 (z : HrS) : List Value := [fo_vs z.nm, fo_vs sExt, fo_vs eNul, fo_vs eNul, fo_vs sTyp, fo_vs eNul, fo_vs eNul]
abbrev q11 (e1 : Atom) (z : HrS) (e0 : RqX) := [(0, e1), (1, fo_cl z.b1 (q3 e0) 45), (2, fo_cl z.b3 q24 51), (3, fo_cl z.b10 (q18 z) 51), (4, z.ro.A), (5, z.ow.A)]
def T88 := fo_C2 47 vsC (λw0 => w0.s.size ≤ 1048576) (λ_ => Utf)
abbrev q119 (F : Atom) (n : HrS) (x : RqX) (i : Nat) (k j : ByteArray) := [(0, F), (1, fo_cl n.b1 (q3 x) 45), (2, fo_cl n.b3 q24 51), (3, fo_cl n.b10 (q18 n) 51), (4, n.ro.A), (5, n.ow.A), (17020, fo_cl i (q210 k j) 36)]
def q139 (n : HrS) (x : RqX) (F : Atom) (i : Nat) (k j : ByteArray) := fo_s5 n.b3 (fo_sm n.b3 5 ∧ fo_sm n.b3 6 ∧ fo_s5 n.b3 (fo_sm n.b3 5 ∧ fo_sm n.b3 6 ∧ Done hearC x F q100 [(0, F), (1, fo_cl n.b1 (q3 x) 45), (2, fo_cl n.b3 q6 51), (3, fo_cl n.b10 (q18 n) 51), (4, n.ro.A), (5, n.ow.A), (17020, fo_cl i (q210 k j) 36)]))
abbrev q283 : ByteArray := ByteArray.mk #[95, 115, 99, 120, 109, 108, 101, 118, 101, 110, 116, 110, 97, 109, 101]
def T89 (e0 : RqX) (e1 : Atom) (v0 v1 v2 v3 v4 v5 v6 : Value) (ss : St) (mm : Nat) := ∃ (z : HrS), z.ok e0.r ∧ (v0 = fo_vp (q280 z) ∧ v1 = fo_vp (q281 z) ∧ fo_vs (cutA (tgV e0.r) 63) = fo_vs (cutA (tgV e0.r) 63) ∧ fo_vb true = fo_vb true ∧ v2 = fo_vp (q263 z) ∧ v3 = fo_vl z.ow.a z.ow.n z.ow.cap ∧ v4 = fo_vl z.ro.a z.ro.n z.ro.cap ∧ v5 = fo_vi ↑z.ro.n ∧ v6 = fo_vi ↑z.i ∧ True) ∧ Ent ss (q11 e1 z e0) ∧ z.l.length - z.i < mm
abbrev q277 := fo_rt (tuple ⟨[fo_vs ⟨#[]⟩, agg ⟨q6⟩, fo_vi 413]⟩)
abbrev q91 (n : HrS) (b : ObjX) : List Value := [fo_vs n.nm, fo_vs sExt, fo_vs eNul, fo_vs eNul, fo_vs sTyp, fo_vs eNul, fo_vs ((jsV (jobV b.l)).getD q59)]
abbrev q177 (F : Atom) (n : HrS) (x : RqX) (e : Nat) := fo_aR [(0, F), (1, fo_cl n.b1 (q3 x) 45), (2, fo_cl n.b3 q24 51), (3, fo_cl n.b10 (q18 n) 51), (4, n.ro.A), (5, n.ow.A), (700, fo_cl e [fo_vl none 0 0, fo_vi 0] 60)] []
abbrev q97 (n : HrS) (b : Tg) : List Value := [fo_vs n.nm, fo_vs sExt, fo_vs eNul, fo_vs eNul, fo_vs sTyp, fo_vs eNul, fo_vs ((jsV b.q).getD q59)]
def q75 (n : HrS) (x : RqX) (F : Atom) := true = true ∧ fo_s5 n.b10 (fo_sm n.b10 5 ∧ fo_sm n.b10 6 ∧ fo_s5 n.b3 (fo_sm n.b3 5 ∧ fo_sm n.b3 6 ∧ fo_s5 n.b3 (fo_sm n.b3 5 ∧ fo_sm n.b3 6 ∧ Done hearC x F (fo_rt (tuple ⟨[fo_vs (cutA (tgV x.r) 63), agg ⟨q18 n⟩, fo_vi 200]⟩)) [(0, F), (1, fo_cl n.b1 (q3 x) 45), (2, fo_cl n.b3 (q18 n) 51), (3, fo_cl n.b10 (q18 n) 51), (4, n.ro.A), (5, n.ow.A)])))
theorem hear_vc (x : RqX) (F : Atom) (hc : hearC.cond x) (hr : hearC.rdc x F) :
 ∀(B A : Nat), (fo_sm B 0 ∧ Br (!x.r.m.toList == (ByteArray.mk #[80, 79, 83, 84]).toList) (fo_sm B 0 ∧ Br (!x.r.m.toList == (ByteArray.mk #[71, 69, 84]).toList) (fo_s5 A (fo_sm A 5 ∧ fo_sm A 6 ∧ fo_s5 A (fo_sm A 5 ∧ fo_sm A 6 ∧ Done hearC x F (fo_rt (tuple ⟨[fo_vs ⟨#[]⟩, agg ⟨q6⟩, fo_vi 405]⟩)) (q347 F B x A)))) (T87 x F (q233 B) (q233 A) (q347 F B x A))) (T87 x F (q233 B) (q233 A) (q347 F B x A))) ∧ fo_vA λ(z : Hr0) _ => (!bEq x.r.m sPost && !bEq x.r.m sGet) = false → fo_sm z.b1 1 ∧ fo_C1 43 tpC (λw => w.c < 256) [fo_vs x.r.t, fo_vs ⟨#[47]⟩] (λw v => T27 [fo_vs (tpV w.s w.c), fo_vs ⟨#[63]⟩] (fo_aR (q289 F z x) []) (λu t => fo_s5 z.b1 (fo_C4 44 foC (λs => s.r.ok) (λ_ => Gl) (λs r => (r.ok = true ∧ flsV s.r = some r.y.l ∧ IsRow 36 2 (fCs r.y.l) r.y.r ∧ r.y.l.length ≤ 64 ∨ r.ok = false ∧ flsV s.r = none ∧ r.y.r = nilRow)) [agg ⟨q3 x⟩, fo_vs (cutB u.s u.c)] ([] : List Atom) (fo_aR (q289 F z x) []) (λs r => Br (!r.ok) (fo_s5 z.b3 (fo_sm z.b3 5 ∧ fo_sm z.b3 6 ∧ fo_s5 z.b3 (fo_sm z.b3 5 ∧ fo_sm z.b3 6 ∧ Done hearC x F q100 [(0, F), (1, fo_cl z.b1 (q3 x) 45), (2, fo_cl z.b3 q6 51), (4, r.y.r.A)]))) (fo_sm z.b1 0 ∧ 5 + x.r.m.size ≤ 9223372036854775807 ∧ ∀(q : Nat), fo_s5 q (fo_sm q 5 ∧ fo_sm q 6 ∧ fo_C2 45 fdC (λe => IsSrc 2 (fCs e.l) e.a e.n ∧ e.l.length ≤ 1048576) (λe rr => Srcd rr e.a (fCs e.l)) [fo_vl r.y.r.a r.y.r.n r.y.r.cap, fo_vs ⟨#[95, 115, 99, 120, 109, 108, 101, 118, 101, 110, 116, 110, 97, 109, 101]⟩] (fo_aR [(0, F), (1, fo_cl z.b1 (q3 x) 45), (2, fo_cl z.b3 q24 51), (3, fo_cl q (q21 x) 51), (4, r.y.r.A)] []) (λe d => Br (fndV e.nm e.l).isSome (Br (((fndV e.nm e.l).getD q59).toList == q59.toList) (q45 z x F q r) (fo_k 46 caC ∧ true = true ∧ ∃ (c : T2X), [fo_vs ((fndV e.nm e.l).getD q59), fo_vs ⟨#[9, 10, 13, 32]⟩] = [fo_vs c.s, fo_vs c.t] ∧ ([] : List Atom) = [] ∧ q229 c ∧ True ∧ ∀ (b : Unit), True → Br (hasV c.s c.t) (q45 z x F q r) (Same ⟨q, 0, none⟩ q ∧ ∃ (a : HrS), (a.ok x.r ∧ a.i = 0 ∧ a.ow = nilRow) ∧ q98 z a u x r q ∧ Ent [(0, F), (1, fo_cl z.b1 (q3 x) 45), (2, fo_cl z.b3 q24 51), (3, fo_cl q [fo_vs ((fndV e.nm e.l).getD q59), fo_vs ⟨#[101, 120, 116, 101, 114, 110, 97, 108]⟩, fo_vs ⟨#[]⟩, fo_vs ⟨#[]⟩, fo_vs ⟨#[104, 116, 116, 112, 58, 47, 47, 119, 119, 119, 46, 119, 51, 46, 111, 114, 103, 47, 84, 82, 47, 115, 99, 120, 109, 108, 47, 35, 66, 97, 115, 105, 99, 72, 84, 84, 80, 69, 118, 101, 110, 116, 80, 114, 111, 99, 101, 115, 115, 111, 114]⟩, fo_vs ⟨#[]⟩, fo_vs ⟨#[]⟩] 51), (4, r.y.r.A)] (q11 F a x)))) (∃ (a : HrS), (a.ok x.r ∧ a.i = 0 ∧ a.ow = nilRow) ∧ q98 z a u x r q ∧ Ent [(0, F), (1, fo_cl z.b1 (q3 x) 45), (2, fo_cl z.b3 q24 51), (3, fo_cl q (q21 x) 51), (4, r.y.r.A)] (q11 F a x))) ∧ fo_vA λ(p : HrS) _ => (p.ok x.r ∧ p.i = 0 ∧ p.ow = nilRow) → (∃(a : HrS), a.ok x.r ∧ (fo_vp (q280 p) = fo_vp (q280 a) ∧ fo_vp (q281 p) = fo_vp (q281 a) ∧ fo_vs (cutA (tgV x.r) 63) = fo_vs (cutA (tgV x.r) 63) ∧ fo_vb true = fo_vb true ∧ fo_vp (q263 p) = fo_vp (q263 a) ∧ fo_vl none 0 0 = fo_vl a.ow.a a.ow.n a.ow.cap ∧ fo_vl p.ro.a p.ro.n p.ro.cap = fo_vl a.ro.a a.ro.n a.ro.cap ∧ fo_vi ↑p.ro.n = fo_vi ↑a.ro.n ∧ fo_vi 0 = fo_vi ↑a.i ∧ True) ∧ Ent (q11 F p x) (q11 F a x)) ∧ fo_vA λ(n : HrS) _ => n.ok x.r → fo_Bd ((n.i : Int) < (n.ro.n : Int)) (T30 (opIn Tryz.f15 16 0) [fo_vl n.ro.a n.ro.n n.ro.cap, fo_vi ↑n.i] (λl => T25 n.ro.A ⟨l.b, l.o + l.n.toNat * 2, none⟩ (λk => T25 n.ro.A ⟨l.b, l.o + l.n.toNat * 2 + 1, none⟩ (λj => ∀(i : Nat), fo_sm i 0 ∧ fo_sm i 1 ∧ fo_sm i 0 ∧ T88 [fo_vs k] (fo_aR (q119 F n x i k j) []) (λh g => Br (!okV h.s) (q139 n x F i k j) (fo_sm i 1 ∧ T88 [fo_vs j] (fo_aR (q119 F n x i k j) []) (λf e => Br (!okV f.s) (q139 n x F i k j) (fo_sm i 0 ∧ Br (!k.toList == q283.toList) (fo_sm i 0 ∧ fo_sm i 1 ∧ ∀(d : Nat), T29 (opIn Tryz.f15 20 3) [fo_vl n.ow.a n.ow.n n.ow.cap, fo_vl (q17 d) 1 1] [n.ow.A] (fo_aR [(0, F), (1, fo_cl n.b1 (q3 x) 45), (2, fo_cl n.b3 q24 51), (3, fo_cl n.b10 (q18 n) 51), (4, n.ro.A), (5, n.ow.A), (17020, fo_cl i (q210 k j) 36), (21020, fo_cl d (q210 k j) 36)] [5]) (λc b => fo_rI ((n.i : Int) + 1) ∧ T89 x F (fo_vp (q280 n)) (fo_vp (q281 n)) (fo_vp (q263 n)) (fo_vl b.a b.n b.cap) (fo_vl n.ro.a n.ro.n n.ro.cap) (fo_vi ↑n.ro.n) (fo_vi ((n.i : Int) + 1)) [(0, F), (1, fo_cl n.b1 (q3 x) 45), (2, fo_cl n.b3 q24 51), (3, fo_cl n.b10 (q18 n) 51), (4, n.ro.A), (5, b.A), (17020, fo_cl i (q210 k j) 36), (21020, fo_cl d (q210 k j) 36)] (n.l.length - n.i))) (fo_rI ((n.i : Int) + 1) ∧ T89 x F (fo_vp (q280 n)) (fo_vp (q281 n)) (fo_vp (q263 n)) (fo_vl n.ow.a n.ow.n n.ow.cap) (fo_vl n.ro.a n.ro.n n.ro.cap) (fo_vi ↑n.ro.n) (fo_vi ((n.i : Int) + 1)) (q119 F n x i k j) (n.l.length - n.i)))))))))) (fo_Bd ((n.ow.n : Int) > 0) (fo_C2 48 bobC (λb => (IsSrc 2 (fCs b.l) b.a b.n ∧ b.l.length ≤ 64 ∧ ∀(a : Fld), a ∈ b.l → a.fst.size ≤ 4096 ∧ a.snd.size ≤ 4096)) (λb rr => Srcd rr b.a (fCs b.l) ∧ Utf rr) [fo_vl n.ow.a n.ow.n n.ow.cap] (fo_aR (q11 F n x) []) (λb a => fo_sm n.b10 6 ∧ Br (!(jsV (jobV b.l)).isSome) (fo_s5 n.b3 (fo_sm n.b3 5 ∧ fo_sm n.b3 6 ∧ fo_s5 n.b3 (fo_sm n.b3 5 ∧ fo_sm n.b3 6 ∧ Done hearC x F q277 [(0, F), (1, fo_cl n.b1 (q3 x) 45), (2, fo_cl n.b3 q6 51), (3, fo_cl n.b10 (q91 n b) 51), (4, n.ro.A), (5, n.ow.A)]))) (true = true ∧ fo_s5 n.b10 (fo_sm n.b10 5 ∧ fo_sm n.b10 6 ∧ fo_s5 n.b3 (fo_sm n.b3 5 ∧ fo_sm n.b3 6 ∧ fo_s5 n.b3 (fo_sm n.b3 5 ∧ fo_sm n.b3 6 ∧ Done hearC x F (fo_rt (tuple ⟨[fo_vs (cutA (tgV x.r) 63), agg ⟨q91 n b⟩, fo_vi 200]⟩)) [(0, F), (1, fo_cl n.b1 (q3 x) 45), (2, fo_cl n.b3 (q91 n b) 51), (3, fo_cl n.b10 (q91 n b) 51), (4, n.ro.A), (5, n.ow.A)])))))) (fo_sm n.b1 4 ∧ Br (!x.r.b.toList == q59.toList) (fo_s5 n.b1 (T33 [agg ⟨q3 x⟩] (fo_aR (q11 F n x) []) (λj i => Br (!frmV j.r) (fo_sm n.b1 4 ∧ T88 [fo_vs x.r.b] (fo_aR (q11 F n x) []) (λh g => Br (!okV h.s) (fo_s5 n.b3 (fo_sm n.b3 5 ∧ fo_sm n.b3 6 ∧ fo_s5 n.b3 (fo_sm n.b3 5 ∧ fo_sm n.b3 6 ∧ Done hearC x F q100 [(0, F), (1, fo_cl n.b1 (q3 x) 45), (2, fo_cl n.b3 q6 51), (3, fo_cl n.b10 (q18 n) 51), (4, n.ro.A), (5, n.ow.A)]))) (true = true ∧ fo_C0 6 nwzC [fo_vi 0] (λf e => fo_sm n.b1 4 ∧ T85 [fo_vs x.r.b] (q177 F n x e) (λd c => fo_C2 50 tdC (λb => b.good) (λb rr => Utf rr ∧ b.Rd rr ∧ b.good) [fo_vp (q17 e), agg ⟨q42 d⟩] (q177 F n x e) (λb a => fo_sm n.b10 6 ∧ Br (!(jsV b.q).isSome) (fo_s5 n.b3 (fo_sm n.b3 5 ∧ fo_sm n.b3 6 ∧ fo_s5 n.b3 (fo_sm n.b3 5 ∧ fo_sm n.b3 6 ∧ Done hearC x F q277 [(0, F), (1, fo_cl n.b1 (q3 x) 45), (2, fo_cl n.b3 q6 51), (3, fo_cl n.b10 (q97 n b) 51), (4, n.ro.A), (5, n.ow.A), (700, fo_cl e [fo_vl none 0 0, fo_vi 0] 60)]))) (true = true ∧ fo_s5 n.b10 (fo_sm n.b10 5 ∧ fo_sm n.b10 6 ∧ fo_s5 n.b3 (fo_sm n.b3 5 ∧ fo_sm n.b3 6 ∧ fo_s5 n.b3 (fo_sm n.b3 5 ∧ fo_sm n.b3 6 ∧ Done hearC x F (fo_rt (tuple ⟨[fo_vs (cutA (tgV x.r) 63), agg ⟨q97 n b⟩, fo_vi 200]⟩)) [(0, F), (1, fo_cl n.b1 (q3 x) 45), (2, fo_cl n.b3 (q97 n b) 51), (3, fo_cl n.b10 (q97 n b) 51), (4, n.ro.A), (5, n.ow.A), (700, fo_cl e [fo_vl none 0 0, fo_vi 0] 60)])))))))))) (q75 n x F)))) (q75 n x F))))))))) := by
  delta q6 q3 q347 q24 q289 T87 q17 q233 T27 q100 q21 q59 q45 q229 q280 q281 q263 q98 q18 q11 q175 T30 T25 T88 q210 q119 q139 q283 q293 q261 q149 T29 T89 q277 q91 T33 q238 T85 q177 q42 q97 q75 fo_aR fo_sm fo_rI fo_s5 fo_C0 fo_C1 fo_C2 fo_C4 fo_O4 fo_vi fo_vs fo_vb fo_vp fo_vl fo_cl fo_Bd fo_rt fo_vA
  obtain ⟨r⟩ := x
  obtain ⟨hc, hbs⟩ := hc
  have hc : r.ok := hc
  have hbs : r.b.size ≤ 262144 := hbs
  have hr : Gl F := hr
  have hu := hr.utf
  dsimp only
  have no : ∀ (S : St) (s : Nat), hearV r = .no s → Ent S (ofL [F]) → Done hearC ⟨r⟩ F (returned (tuple #[.string ⟨#[]⟩, .agg #[.string ⟨#[]⟩, .string ⟨#[]⟩, .string ⟨#[]⟩, .string ⟨#[]⟩, .string ⟨#[]⟩, .string ⟨#[]⟩, .string ⟨#[]⟩], .int .i64 s])) S := λS s h1 h2 => ⟨(), fo_tv, by show _ = returned _; dsimp only; rw [h1] <;> rfl, h2⟩
  have yes : ∀ (S : St) (p n d : ByteArray), hearV r = .ok p n d → Ent S (ofL [F]) → Done hearC ⟨r⟩ F (returned (tuple #[.string p, .agg #[.string n, .string sExt, .string eNul, .string eNul, .string sTyp, .string eNul, .string d], .int .i64 200])) S := λS p n d h1 h2 => ⟨(), fo_tv, by show _ = returned _; dsimp only; rw [h1] <;> rfl, h2⟩
  intro b1 b3
  refine ⟨⟨⟨rfl, rfl⟩, br_intro (λq1 => ⟨⟨rfl, rfl⟩, br_intro (λq2 => ?_) (λq2 => ⟨⟨b1, b3⟩, ?_, ⟨rfl, rfl, fo_tv⟩, Ent.pick [0, 1, 2] rfl rfl⟩)⟩) (λq1 => ⟨⟨b1, b3⟩, ?_, ⟨rfl, rfl, fo_tv⟩, Ent.pick [0, 1, 2] rfl rfl⟩)⟩, ?_⟩
  · have q1 : (!bEq r.m sPost) = true := q1
    have q2 : (!bEq r.m sGet) = true := q2
    repeat refine ⟨⟨rfl, rfl⟩, ?_⟩
    exact no _ 405 (hear_405 (by rw [q1, q2] <;> rfl)) (Ent.pick [0] rfl rfl)
  · have q2 : (!bEq r.m sGet) = false := q2
    show (!bEq r.m sPost && !bEq r.m sGet) = false
    rw [q2, fo_baf]
  · have q1 : (!bEq r.m sPost) = false := q1
    show (!bEq r.m sPost && !bEq r.m sGet) = false
    rw [q1, fo_fba]
  rintro ⟨b1, b3⟩ js hm
  dsimp only at hm ⊢
  have htg : (tgV r).size ≤ r.t.size := by
    unfold tgV
    cases (decide (r.t.size > 0) && bt r.t 0 == 47)
    · exact fo_nr _
    · rw [fo_ct, fo_se]; omega
  refine ⟨⟨rfl, rfl⟩, tp_ok, rfl, ⟨r.t, 47⟩, rfl, rfl, (by decide : 47 < 256), fo_tv, λ_ _ => ⟨ct_ok, rfl, ⟨tgV r, 63⟩, rfl, rfl, ⟨fo_lt htg hc.2.1, (by decide : 63 < 256)⟩, Gl.rest (j := 0) (by simp) hr, λ_ _ => ⟨⟨rfl, rfl⟩, ⟨rfl, rfl⟩, ⟨rfl, rfl⟩, ⟨rfl, rfl⟩, ⟨rfl, rfl⟩, flo_ok, rfl, ⟨r⟩, rfl, rfl, hc, Gl.rest (j := 0) (by simp) hr, ?_⟩⟩⟩
  rintro ⟨⟨l, ro⟩, ok⟩ hy
  dsimp only at hy ⊢
  rcases hy with ⟨rfl, h1, h2, h3⟩ | ⟨rfl, h1, _⟩
  rotate_left
  · refine br_intro (λ_ => ?_) (λq => by cases q)
    repeat refine ⟨⟨rfl, rfl⟩, ?_⟩
    exact no _ 400 (hear_nol hm h1) (Ent.pick [0] rfl rfl)
  refine br_intro (λq => by cases q) (λ_ => ⟨⟨rfl, rfl⟩, by have := hc.1; omega, λb10 => ?_⟩)
  have hnm : nmV r l = (match fndV sName l with
    | some n => bif decide (n.size = 0) || decide (run1 n (λb => !blk4 b) 0 < n.size) then none else some n
    | none => some (sHttp ++ r.m)) := rfl
  repeat refine ⟨⟨rfl, rfl⟩, ?_⟩
  refine ⟨⟨fd_ok, rfl, ⟨ro.a, ro.n, ro.cap, l, sName⟩, rfl, rfl, ⟨h2.src, by dsimp only; omega⟩, row_srcd 4 (by simp) rfl h2, λ_ _ => ?_⟩, ?_⟩
  ·
    dsimp only
    revert hnm
    have hmem := @fndV_mem sName
    generalize hf : fndV sName l = o
    intro hnm
    cases o with
    | none =>
      refine br_intro (λq => by cases q) (λ_ => ⟨⟨b1, b3, b10, sHttp ++ r.m, l, ro, 0, nilRow⟩, ⟨⟨hm, h1, hnm, h2, h3, fo_zl _, rfl, .nil rfl⟩, rfl, rfl⟩, ⟨rfl, rfl, rfl, rfl, rfl, rfl, fo_tv⟩, Ent.pick [0, 1, 2, 3, 4, 999] rfl rfl⟩)
    | some n =>
      have hnz : n.size ≤ 4096 := by
        obtain ⟨f, g1, g2⟩ := hmem hf
        rw [← g2]
        exact (flsV_size h1 f g1).2
      refine br_intro (λ_ => br_intro (λq => ?_) (λq => ⟨ca_ok, rfl, ⟨n, ⟨#[9, 10, 13, 32]⟩⟩, rfl, rfl, ⟨by dsimp only; omega, tab4.1, tab4.2, asc_blk⟩, fo_tv, λ_ _ => br_intro (λq2 => ?_) (λq2 => ?_)⟩)) (λq => by cases q)
      · have q : (n.toList == (ByteArray.mk #[]).toList) = true := q
        rw [str_e0, beq_iff_eq] at q
        repeat refine ⟨⟨rfl, rfl⟩, ?_⟩
        exact no _ 400 (hear_non hm h1 (by rw [hnm]; dsimp only; rw [fo_dt q] <;> rfl)) (Ent.pick [0] rfl rfl)
      · have q2 : hasV n ⟨#[9, 10, 13, 32]⟩ = true := q2
        rw [hasV_blk] at q2
        repeat refine ⟨⟨rfl, rfl⟩, ?_⟩
        exact no _ 400 (hear_non hm h1 (by rw [hnm]; dsimp only; rw [q2, fo_bot] <;> rfl)) (Ent.pick [0] rfl rfl)
      · have q : (n.toList == (ByteArray.mk #[]).toList) = false := q
        rw [str_e0, fo_bf] at q
        have q2 : hasV n ⟨#[9, 10, 13, 32]⟩ = false := q2
        rw [hasV_blk] at q2
        refine ⟨⟨rfl, rfl⟩, ⟨b1, b3, b10, n, l, ro, 0, nilRow⟩, ⟨⟨hm, h1, ?_, h2, h3, fo_zl _, rfl, .nil rfl⟩, rfl, rfl⟩, ⟨rfl, rfl, rfl, rfl, rfl, rfl, fo_tv⟩, Ent.pick [0, 1, 2, 3, 4, 999] rfl rfl⟩
        show nmV r l = some n
        rw [hnm]; dsimp only; rw [q2, fo_df q] <;> rfl
  rintro ⟨b1, b3, b10, nm, l, ro, i, ow⟩ js ⟨hok, hi0, how⟩
  dsimp only at hi0 how ⊢
  subst hi0 how
  refine ⟨⟨⟨b1, b3, b10, nm, l, ro, 0, nilRow⟩, hok, ⟨rfl, rfl, rfl, rfl, rfl, rfl, rfl, rfl, rfl, fo_tv⟩, Ent.pick [0, 1, 2, 3, 4, 999] rfl rfl⟩, ?_⟩
  clear hok
  rintro ⟨b1, b3, b10, nm, l, ro, i, ow⟩ js hok
  obtain ⟨_, hl, hn, h2, h3, hi, hv, ho⟩ := hok
  have hok : HrS.ok ⟨b1, b3, b10, nm, l, ro, i, ow⟩ r := ⟨hm, hl, hn, h2, h3, hi, hv, ho⟩
  dsimp only at hl hn h2 h3 hi hv ho ⊢
  have hnr := h2.len
  have hno := ho.len
  rw [fCs_length] at hnr hno
  have hsz := flsV_size hl
  refine br_decide (λh => ?_) (λh => ?_)
  · have hlt : i < l.length := by omega
    obtain ⟨c, o, ha⟩ := h2.src.some (by omega)
    obtain ⟨q, hq⟩ : ∃ q, l[i]? = some q := ⟨l[i], fo_ge hlt⟩
    obtain ⟨g1, g2⟩ := fCs_get hq
    have hz := hsz q (fo_mg hq)
    have ht := oth_take hq
    have hbad := all_at hq
    have hgood := all_take hq hv
    obtain ⟨q1, q2⟩ := q
    dsimp only at hz ht hbad hgood
    have hsrd := h2.srcd
    rw [ha] at hsrd
    refine ⟨ixq_ok 2 rfl rfl rfl rfl, ⟨c, o, ro.n, ro.cap, i⟩, by rw [ha], ⟨by dsimp only; omega, h⟩, q1, ?_, q2, ?_, λd => ⟨⟨rfl, rfl⟩, ⟨rfl, rfl⟩, ⟨rfl, rfl⟩, vs_ok, rfl, ⟨q1⟩, rfl, rfl, by dsimp only; omega, Utf.rest (j := 0) (by simp) hu, λ_ _ => br_intro (λe => ?_) (λe => ⟨⟨rfl, rfl⟩, vs_ok, rfl, ⟨q2⟩, rfl, rfl, by dsimp only; omega, Utf.rest (j := 0) (by simp) hu, λ_ _ => br_intro (λe2 => ?_) (λe2 => ⟨⟨rfl, rfl⟩, br_intro (λe3 => ⟨⟨rfl, rfl⟩, ⟨rfl, rfl⟩, λd2 => ⟨append_ok (P := Tryz.prog) 2 32 rfl rfl rfl rfl rfl rfl rfl (by decide), rfl, ⟨ow, fCs (othV (l.take i)), some ⟨d2, 0, none⟩, 1, 1, fCs [(q1, q2)]⟩, rfl, rfl, ⟨ho, rfl, λ_ h => fCs_one h, ?_, ?_, by simp⟩, ?_, ?_⟩⟩) (λe3 => ?_)⟩)⟩)⟩⟩
    · have := Srcd.look hsrd g1
      dsimp only
      rw [fo_tn, Nat.mul_comm]
      exact this
    · have := Srcd.look hsrd g2
      dsimp only
      rw [fo_tn, Nat.mul_comm i 2, Nat.add_assoc]
      exact this
    · have e : (!okV q1) = true := e
      repeat refine ⟨⟨rfl, rfl⟩, ?_⟩
      refine no _ 400 (hear_nou hok (hbad ?_)) (Ent.pick [0] rfl rfl)
      rw [Bool.not_eq_true'] at e
      rw [e] <;> rfl
    · have e2 : (!okV q2) = true := e2
      repeat refine ⟨⟨rfl, rfl⟩, ?_⟩
      refine no _ 400 (hear_nou hok (hbad ?_)) (Ent.pick [0] rfl rfl)
      rw [Bool.not_eq_true'] at e2
      rw [e2, fo_baf]
    · have : (othV (l.take i)).length ≤ i := fo_lt (List.length_filter_le _ _) (List.length_take_le _ _)
      dsimp only; omega
    · have : (othV (l.take i)).length ≤ i := fo_lt (List.length_filter_le _ _) (List.length_take_le _ _)
      dsimp only; omega
    · intro a ha
      cases ha
      exact Seg.rest (j := 21020) (by simp) (Seg.cells (λj u hj => by rw [fo_za]; exact hj))
    · rintro y ⟨k1, k2, -⟩
      have e : (!okV q1) = false := e
      have e2 : (!okV q2) = false := e2
      have e3 : (!bEq q1 sName) = true := e3
      rw [Bool.not_eq_false'] at e e2
      rw [Bool.not_eq_true'] at e3
      have k1 : IsRow 36 2 (fCs (othV (l.take i)) ++ fCs [(q1, q2)]) y := k1
      rw [← fCs_app] at k1
      rw [e3, fo_cf] at ht
      refine ⟨⟨by omega, by omega⟩, ⟨b1, b3, b10, nm, l, ro, i + 1, y⟩, ⟨hm, hl, hn, h2, h3, hlt, hgood (by rw [e, e2] <;> rfl), ?_⟩, ⟨rfl, rfl, rfl, rfl, rfl, rfl, rfl, rfl, rfl, fo_tv⟩, Ent.pick [0, 1, 2, 3, 4, 5] rfl rfl, by dsimp only; omega⟩
      dsimp only
      rw [ht]; exact k1
    · have e : (!okV q1) = false := e
      have e2 : (!okV q2) = false := e2
      have e3 : (!bEq q1 sName) = false := e3
      rw [Bool.not_eq_false'] at e e2 e3
      rw [e3, fo_ct, fo_an] at ht
      refine ⟨⟨by omega, by omega⟩, ⟨b1, b3, b10, nm, l, ro, i + 1, ow⟩, ⟨hm, hl, hn, h2, h3, hlt, hgood (by rw [e, e2] <;> rfl), ?_⟩, ⟨rfl, rfl, rfl, rfl, rfl, rfl, rfl, rfl, rfl, fo_tv⟩, Ent.pick [0, 1, 2, 3, 4, 5] rfl rfl, by dsimp only; omega⟩
      dsimp only
      rw [ht]; exact ho
  · have hi2 : i = l.length := by omega
    rw [hi2, List.take_length] at hv ho hno
    have hd := hear_dat hok hv
    dsimp only at hd
    have hdat : datV r l = (bif decide ((othV l).length > 0) then .inl (jsV (jobV (othV l)))
      else bif decide (r.b.size > 0) && !frmV r then (bif okV r.b then .inl (jsV (quV (wideV r.b))) else .inr ())
      else .inl (some ⟨#[]⟩)) := rfl
    have hol : (othV l).length ≤ l.length := List.length_filter_le _ _
    refine br_decide (λh => ?_) (λh => ?_)
    · rw [fo_dt (show (othV l).length > 0 by omega), fo_ct] at hdat
      rw [hdat] at hd
      refine ⟨bob_ok, rfl, ⟨ow.a, ow.n, ow.cap, othV l⟩, rfl, rfl, ⟨ho.src, by dsimp only; omega, λf hf => hsz f (List.mem_filter.1 hf).1⟩, ⟨row_srcd 5 (by simp) rfl ho, Utf.rest (j := 0) (by simp) hu⟩, λ_ _ => ⟨⟨rfl, rfl⟩, ?_⟩⟩
      dsimp only
      revert hd
      generalize jsV (jobV (othV l)) = v
      intro hd
      cases v with
      | none =>
        refine br_intro (λ_ => ?_) (λq => by cases q)
        repeat refine ⟨⟨rfl, rfl⟩, ?_⟩
        exact no _ 413 hd (Ent.pick [0] rfl rfl)
      | some v =>
        refine br_intro (λq => by cases q) (λ_ => ⟨rfl, ?_⟩)
        repeat refine ⟨⟨rfl, rfl⟩, ?_⟩
        exact yes _ _ _ _ hd (Ent.pick [0] rfl rfl)
    · rw [fo_df (show ¬ (othV l).length > 0 by omega), fo_cf] at hdat
      have hbz : ∀ v, (!(r.b.toList == (ByteArray.mk #[]).toList)) = v → decide (r.b.size > 0) = v := λv q => by
        rw [str_e0] at q
        rw [← q, Bool.eq_iff_iff, decide_eq_true_iff, Bool.not_eq_true', fo_bf]; omega
      have emp : datV r l = .inl (some ⟨#[]⟩) → hearV r = .ok (cutA (tgV r) 63) nm eNul := λq => by rw [hd, q]
      refine ⟨⟨rfl, rfl⟩, br_intro (λq1 => ⟨⟨rfl, rfl⟩, ⟨rfl, rfl⟩, ⟨rfl, rfl⟩, ⟨rfl, rfl⟩, ⟨rfl, rfl⟩, if_ok, rfl, ⟨r⟩, rfl, rfl, hc, Gl.rest (j := 0) (by simp) hr, λ_ _ => br_intro (λq2 => ⟨⟨rfl, rfl⟩, vs_ok, rfl, ⟨r.b⟩, rfl, rfl, hc.2.2.2.2, Utf.rest (j := 0) (by simp) hu, λ_ _ => br_intro (λq3 => ?_) (λq3 => ⟨rfl, nwz_ok, rfl, (), rfl, rfl, fo_tv, fo_tv, λb _ => ⟨⟨rfl, rfl⟩, tb_ok, rfl, ⟨r.b⟩, rfl, rfl, hc.2.2.2.2, Utf.rest (j := 0) (by simp) hu, ?_⟩⟩)⟩) (λq2 => ?_)⟩) (λq1 => ?_)⟩
      · have q1 := hbz true q1
        have q2 : (!frmV r) = true := q2
        have q3 : (!okV r.b) = true := q3
        rw [Bool.not_eq_true'] at q3
        rw [q1, q2, q3] at hdat
        repeat refine ⟨⟨rfl, rfl⟩, ?_⟩
        exact no _ 400 (by rw [hd, hdat] <;> rfl) (Ent.pick [0] rfl rfl)
      · have q1 := hbz true q1
        have q2 : (!frmV r) = true := q2
        have q3 : (!okV r.b) = false := q3
        rw [Bool.not_eq_false'] at q3
        rw [q1, q2, q3] at hdat
        have hdat : datV r l = .inl (jsV (quV (wideV r.b))) := hdat
        rw [hdat] at hd
        have hg := Tg.good.tx b (wideV r.b) (fo_lt (wd_size r.b).1 (by omega))
        refine λ_ _ => ⟨td_ok, rfl, ⟨4, wideV r.b, quV (wideV r.b), b, λ_ => True⟩, rfl, rfl, hg, ⟨Utf.rest (j := 0) (by simp) hu, fo_tv, hg⟩, λ_ _ => ⟨⟨rfl, rfl⟩, ?_⟩⟩
        dsimp only
        revert hd
        generalize jsV (quV (wideV r.b)) = v
        intro hd
        cases v with
        | none =>
          refine br_intro (λ_ => ?_) (λq => by cases q)
          repeat refine ⟨⟨rfl, rfl⟩, ?_⟩
          exact no _ 413 hd (Ent.pick [0] rfl rfl)
        | some v =>
          refine br_intro (λq => by cases q) (λ_ => ⟨rfl, ?_⟩)
          repeat refine ⟨⟨rfl, rfl⟩, ?_⟩
          exact yes _ _ _ _ hd (Ent.pick [0] rfl rfl)
      · have q2 : (!frmV r) = false := q2
        rw [q2, fo_baf] at hdat
        refine ⟨rfl, ?_⟩
        repeat refine ⟨⟨rfl, rfl⟩, ?_⟩
        exact yes _ _ _ _ (emp hdat) (Ent.pick [0] rfl rfl)
      · have q1 := hbz false q1
        rw [q1, fo_fba] at hdat
        refine ⟨rfl, ?_⟩
        repeat refine ⟨⟨rfl, rfl⟩, ?_⟩
        exact yes _ _ _ _ (emp hdat) (Ent.pick [0] rfl rfl)
theorem hear_ok : fo_k 15 hearC := fo 124 Tryz.func15 (λ_ _ => [(0, 0, .n 1), (0, 2, .n 2), (1, 1, .q [.aq 1]), (1, 5, .q [.aq 1]), (2, 2, .w (at7 2)), (3, 1, .q [.aq 1]), (3, 2, .c tpC [] []), (3, 3, .c ctC [] []), (4, 0, .q (at5 1)), (4, 2, .c foC [] [4]), (6, 2, .w (at7 2)), (7, 1, .q [.aq 1]), (7, 4, .n 3), (7, 5, .w (at7 3)), (8, 1, .c fdC [] []), (10, 4, .c caC [] []), (11, 2, .w (at7 2)), (12, 2, .w [.aq 3]), (16, 0, .qo (ixQ 2)), (16, 1, .q [.ex 4 .str, .ex 4 .str]), (16, 2, .n 17020), (16, 3, .w [.aq 17020, .aq 17020]), (17, 1, .q [.aq 17020]), (17, 2, .c vsC [] []), (17, 6, .q [.aq 17020]), (17, 7, .c vsC [] []), (18, 2, .w (at7 2)), (19, 1, .q [.aq 17020]), (20, 1, .q [.aq 17020, .aq 17020]), (20, 2, .n 21020), (20, 3, .o (apC 36 2 32) [5] [5]), (23, 1, .c bobC [] []), (23, 6, .w [.aq 3]), (24, 1, .q [.aq 1]), (24, 4, .q (at5 1)), (24, 5, .c ifC [] []), (25, 1, .q [.aq 1]), (25, 2, .c vsC [] []), (26, 2, .w (at7 2)), (27, 0, .c nwzC [] [700]), (27, 2, .q [.aq 1]), (27, 3, .c tbC [] []), (27, 4, .c tdC [] []), (27, 9, .w [.aq 3]), (29, 2, .w (at7 2)), (30, 1, .q (at7 3)), (30, 3, .w (at7 2))]) [] hearInv hearCut fo_o [LH.aq 2, LH.aq 2, LH.aq 2, LH.aq 2, LH.aq 2, LH.aq 2, LH.aq 2] hear_vc
end
section
open Go
set_option maxHeartbeats 1000000
structure JrX where
  b : Nat
  w : ByteArray
  i : Nat
  s : ByteArray := ⟨#[]⟩
  c : Nat := 0
def jrA (b : Nat) (w : ByteArray) (i : Nat) : Atom := .cells b [.string w, .int .i64 i] 138
structure JrIn (x : JrX) (F : Atom) : Prop where
  l0 : Look F ⟨x.b, 0, none⟩ (.string x.w)
  l1 : Look F ⟨x.b, 1, none⟩ (.int .i64 x.i)
theorem JrIn.sub {x : JrX} {A B : Atom} (hs : Sub A B) (h : JrIn x A) : JrIn x B := ⟨h.l0.sub hs, h.l1.sub hs⟩
theorem JrIn.jr (x : JrX) : JrIn x (jrA x.b x.w x.i) := ⟨Look.cells rfl, Look.cells rfl⟩
def jpkR0 (w : ByteArray) (i : Nat) : Int := bif decide (i < w.size / 2) then (unitN w i : Int) else -1
abbrev pkfC : Con where
  X := JrX
  Y := Unit
  args x := [.pointer (some ⟨x.b, 0, none⟩)]
  pre _ := []
  cond x := x.w.size ≤ 1048576 ∧ x.i ≤ 1048576
  rdc x F := JrIn x F
  rel _ _ := True
  val x _ := .returned (.int .i64 (jpkR0 x.w x.i))
  post _ _ := []
  rmono _ _ _ hs h := h.sub hs
theorem pkf_vc (x : JrX) (F : Atom) (hc : pkfC.cond x) (hr : pkfC.rdc x F) :
 true = true ∧ T25 F ⟨x.b, 0, none⟩ (λd => T60 F ⟨x.b, 1, none⟩ (λc => T37 [fo_vs d, fo_vi c] (λb a => Br (!decide (b.i < b.s.size / 2)) (Done pkfC x F q173 [(0, F)]) (Done pkfC x F (fo_rt (q190 b)) [(0, F)])))) := by
  delta T25 T60 T37 q173 q190 fo_C1 fo_vi fo_vs fo_rt
  have hr : JrIn x F := hr
  refine ⟨rfl, x.w, hr.l0, x.i, hr.l1, atu_ok, rfl, ⟨x.w, x.i⟩, rfl, rfl, ⟨by have := hc.1; dsimp only; omega, by have := hc.2; dsimp only; omega⟩, fo_tv, λ_ _ => br_intro (λh => ?_) (λh => ?_)⟩
  · have h : (!decide (x.i < x.w.size / 2)) = true := h
    have h : decide (x.i < x.w.size / 2) = false := by simpa using h
    exact ⟨(), fo_tv, by show _ = returned (.int .i64 (jpkR0 x.w x.i)); rw [jpkR0, h] <;> rfl, Ent.pick [0] rfl rfl⟩
  · have h : (!decide (x.i < x.w.size / 2)) = false := h
    have h : decide (x.i < x.w.size / 2) = true := by simpa using h
    exact ⟨(), fo_tv, by show _ = returned (.int .i64 (jpkR0 x.w x.i)); rw [jpkR0, h] <;> rfl, Ent.pick [0] rfl rfl⟩
theorem pkf_ok : fo_k 83 pkfC := fo 20 Tryz.func83 (λ_ _ => [(1, 3, .q [.ex 0 .str]), (1, 7, .q [.ex 0 (.int .i64)]), (1, 8, .c atuC [] [])]) [] fo_i fo_i fo_o [] pkf_vc
def isBk (c : Int) : Bool := decide (c = 9) || (decide (c = 10) || (decide (c = 13) || decide (c = 32)))
abbrev blfC : Con where
  X := JrX
  Y := Unit
  args x := [.pointer (some ⟨x.b, 0, none⟩)]
  pre _ := []
  cond x := x.w.size ≤ 1048576 ∧ x.i ≤ 1048576 ∧ isBk (jpkR0 x.w x.i) = false
  rdc x F := JrIn x F
  rel _ _ := True
  val _ _ := .returned (.tuple #[])
  post _ _ := []
  rmono _ _ _ hs h := h.sub hs
def blfInv (x : JrX) (F : Atom) : Nat → Option Inv := fun
  | 0 => some { X := Unit, P := λ_ => True, mu := λ_ => 0, lv := λ_ => [(0, .pointer (some ⟨x.b, 0, none⟩)), (2, .int .i64 (jpkR0 x.w x.i))], st := λ_ => [F] }
  | _ => none
def T90 := fo_C2 83 pkfC (λw0 => w0.w.size ≤ 1048576 ∧ w0.i ≤ 1048576) JrIn
abbrev q138 (x : JrX) : Option Addr := some ⟨x.b, 0, none⟩
theorem blf_vc (x : JrX) (F : Atom) (hc : blfC.cond x) (hr : blfC.rdc x F) :
 T90 [fo_vp (q138 x)] (q114 F) (λd c => (∃(a : Unit), True ∧ (fo_vp (q138 x) = fo_vp (q138 x) ∧ fo_vi (jpkR0 d.w d.i) = fo_vi (jpkR0 x.w x.i) ∧ True) ∧ Ent [(0, F)] [(0, F)]) ∧ fo_vA λ(b : Unit) _ => True → Br (jpkR0 x.w x.i == 9) False (Br (jpkR0 x.w x.i == 10) False (Br (jpkR0 x.w x.i == 13) False (Br (jpkR0 x.w x.i == 32) False (Done blfC x F q74 [(0, F)]))))) := by
  delta T90 q138 q114 q74 fo_aR fo_C2 fo_vi fo_vp fo_rt fo_vA
  have hr : JrIn x F := hr
  refine ⟨pkf_ok, rfl, x, rfl, rfl, ⟨hc.1, hc.2.1⟩, JrIn.sub (sub_rest 0 (by simp) rfl) hr, λ_ _ => ⟨⟨(), fo_tv, ⟨rfl, rfl, fo_tv⟩, Ent.pick [0] rfl rfl⟩, λ_ _ _ => ?_⟩⟩
  have h := hc.2.2
  unfold isBk at h
  have h1 : jpkR0 x.w x.i ≠ 9 ∧ jpkR0 x.w x.i ≠ 10 ∧ jpkR0 x.w x.i ≠ 13 ∧ jpkR0 x.w x.i ≠ 32 := by simpa using h
  obtain ⟨a, b, c, d⟩ := h1
  rw [beq_false_of_ne a, beq_false_of_ne b, beq_false_of_ne c, beq_false_of_ne d]
  exact ⟨(), fo_tv, rfl, Ent.pick [0] rfl rfl⟩
theorem blf_ok : fo_k 126 blfC := fo 28 Tryz.func126 (λ_ _ => [(0, 1, .c pkfC [] []), (2, 1, .c pkfC [] [])]) [(3, 3, OH.q [])] blfInv fo_i fo_o [] blf_vc
abbrev nvrC : Con where
  X := JrX
  Y := Unit
  args x := [.pointer (some ⟨x.b, 0, none⟩)]
  pre _ := []
  cond _ := False
  rdc _ _ := True
  rel _ _ := True
  val _ _ := .returned (.tuple #[])
  post _ _ := []
abbrev mstC : Con where
  X := JrX
  Y := Unit
  args x := [.pointer (some ⟨x.b, 0, none⟩), .int .i64 x.c]
  pre x := [jrA x.b x.w x.i]
  cond x := x.w.size ≤ 1048576 ∧ x.i ≤ 1048576 ∧ jpkR0 x.w x.i = x.c
  rdc _ _ := True
  rel _ _ := True
  val _ _ := .returned (.tuple #[])
  post x _ := [jrA x.b x.w (x.i + 1)]
def mstOv (_x : JrX) (_F : Atom) : List (Nat × Nat × OH) := [(0, 1, .c pkfC [] []), (1, 1, .c nvrC [] []), (2, 3, .q [.ex 0 (.is (.int .i64 _x.i))])]
abbrev q338 (x : JrX) : List Value := [fo_vs x.w, fo_vi ↑x.i]
def T91 := fo_C1 84 nvrC (λ_ => False)
theorem mst_vc (x : JrX) (F : Atom) (hc : mstC.cond x) (hr : mstC.rdc x F) :
 T90 [fo_vp (q138 x)] (fo_aR [(0, fo_cl x.b (q338 x) 138), (1, F)] []) (λd c => Br (jpkR0 d.w d.i != x.c) (T91 [fo_vp (q138 x)] (λb a => Look (fo_cl x.b (q338 x) 138) ⟨x.b, 1, none⟩ (fo_vi ↑x.i) ∧ fo_rI ((x.i : Int) + 1) ∧ fo_sm x.b 1 ∧ Done mstC x F q74 [(0, fo_cl x.b [fo_vs x.w, fo_vi ((x.i : Int) + 1)] 138), (1, F)])) (Look (fo_cl x.b (q338 x) 138) ⟨x.b, 1, none⟩ (fo_vi ↑x.i) ∧ fo_rI ((x.i : Int) + 1) ∧ fo_sm x.b 1 ∧ Done mstC x F q74 [(0, fo_cl x.b [fo_vs x.w, fo_vi ((x.i : Int) + 1)] 138), (1, F)])) := by
  delta T90 q138 q338 T91 q74 fo_aR fo_sm fo_rI fo_C1 fo_C2 fo_vi fo_vs fo_vp fo_cl fo_rt
  obtain ⟨h1, h2, h3⟩ := hc
  refine ⟨pkf_ok, rfl, x, rfl, rfl, ⟨h1, h2⟩, JrIn.sub (sub_rest 0 (by simp) rfl) (.jr x), λ_ _ => ?_⟩
  have e : (jpkR0 x.w x.i != (x.c : Int)) = false := by rw [h3]; simp
  dsimp only
  rw [e]
  exact ⟨Look.cells rfl, ⟨by omega, by omega⟩, ⟨rfl, rfl⟩, (), fo_tv, rfl, Ent.pick [0, 1] rfl rfl⟩
theorem mst_ok : fo_k 179 mstC := fo 17 Tryz.func179 mstOv [(2, 7, OH.w [LH.aq (0 : Nat)])] fo_i fo_i fo_o [] mst_vc
structure CgX where
  w : ByteArray
  i : Nat
  j : Nat
def cgV (w : ByteArray) (i j : Nat) : ByteArray := bif decide (min i (w.size / 2) < min j (w.size / 2)) then w.extract (2 * min i (w.size / 2)) (2 * min j (w.size / 2)) else ⟨#[]⟩
abbrev cgC : Con where
  X := CgX
  Y := Unit
  args x := [.string x.w, .int .i64 x.i, .int .i64 x.j]
  pre _ := []
  cond x := x.w.size ≤ 1048576 ∧ x.i ≤ 2097152 ∧ x.j ≤ 2097152
  rdc _ _ := True
  rel _ _ := True
  val x _ := .returned (.string (cgV x.w x.i x.j))
  post _ _ := []
theorem cg_vc (x : CgX) (F : Atom) (hc : cgC.cond x) (hr : cgC.rdc x F) :
 T36 [fo_vs x.w] (λd c => T36 [fo_vs x.w] (λb a => fo_Bd ((if (↑(d.a.size / 2) : Int) < if 0 > (x.i : Int) then (0 : Int) else (x.i : Int) then (↑(d.a.size / 2) : Int) else if 0 > (x.i : Int) then (0 : Int) else (x.i : Int)) ≥ if (↑(b.a.size / 2) : Int) < if 0 > (x.j : Int) then (0 : Int) else (x.j : Int) then (↑(b.a.size / 2) : Int) else if 0 > (x.j : Int) then (0 : Int) else (x.j : Int)) (Done cgC x F (fo_rt (fo_vs ⟨#[]⟩)) [(0, F)]) ((((-9223372036854775808 : Int) ≤ 2 * if (↑(d.a.size / 2) : Int) < if 0 > (x.i : Int) then (0 : Int) else (x.i : Int) then (↑(d.a.size / 2) : Int) else if 0 > (x.i : Int) then (0 : Int) else (x.i : Int)) ∧ (2 * if (↑(d.a.size / 2) : Int) < if 0 > (x.i : Int) then (0 : Int) else (x.i : Int) then (↑(d.a.size / 2) : Int) else if 0 > (x.i : Int) then (0 : Int) else (x.i : Int)) ≤ 9223372036854775807) ∧ (((-9223372036854775808 : Int) ≤ 2 * if (↑(b.a.size / 2) : Int) < if 0 > (x.j : Int) then (0 : Int) else (x.j : Int) then (↑(b.a.size / 2) : Int) else if 0 > (x.j : Int) then (0 : Int) else (x.j : Int)) ∧ (2 * if (↑(b.a.size / 2) : Int) < if 0 > (x.j : Int) then (0 : Int) else (x.j : Int) then (↑(b.a.size / 2) : Int) else if 0 > (x.j : Int) then (0 : Int) else (x.j : Int)) ≤ 9223372036854775807) ∧ (((0 : Int) ≤ 2 * if (↑(d.a.size / 2) : Int) < if 0 > (x.i : Int) then (0 : Int) else (x.i : Int) then (↑(d.a.size / 2) : Int) else if 0 > (x.i : Int) then (0 : Int) else (x.i : Int)) ∧ ((2 * if (↑(d.a.size / 2) : Int) < if 0 > (x.i : Int) then (0 : Int) else (x.i : Int) then (↑(d.a.size / 2) : Int) else if 0 > (x.i : Int) then (0 : Int) else (x.i : Int)) ≤ 2 * if (↑(b.a.size / 2) : Int) < if 0 > (x.j : Int) then (0 : Int) else (x.j : Int) then (↑(b.a.size / 2) : Int) else if 0 > (x.j : Int) then (0 : Int) else (x.j : Int)) ∧ (2 * if (↑(b.a.size / 2) : Int) < if 0 > (x.j : Int) then (0 : Int) else (x.j : Int) then (↑(b.a.size / 2) : Int) else if 0 > (x.j : Int) then (0 : Int) else (x.j : Int)) ≤ (x.w.size : Int)) ∧ Done cgC x F (fo_rt (fo_vs (x.w.extract (2 * if (↑(d.a.size / 2) : Int) < if 0 > (x.i : Int) then (0 : Int) else (x.i : Int) then (↑(d.a.size / 2) : Int) else if 0 > (x.i : Int) then (0 : Int) else (x.i : Int)).toNat (2 * if (↑(b.a.size / 2) : Int) < if 0 > (x.j : Int) then (0 : Int) else (x.j : Int) then (↑(b.a.size / 2) : Int) else if 0 > (x.j : Int) then (0 : Int) else (x.j : Int)).toNat))) [(0, F)]))) := by
  delta T36 fo_C1 fo_vs fo_Bd fo_rt
  obtain ⟨w, i, j⟩ := x
  obtain ⟨hw, hi, hj⟩ := hc
  dsimp only at hw hi hj ⊢
  refine ⟨len_ok, rfl, ⟨w, w⟩, rfl, rfl, by dsimp only; omega, fo_tv, λ_ _ => ⟨len_ok, rfl, ⟨w, w⟩, rfl, rfl, by dsimp only; omega, fo_tv, λ_ _ => ?_⟩⟩
  dsimp only
  rw [if_neg (show ¬ 0 > (i : Int) by omega), if_neg (show ¬ 0 > (j : Int) by omega)]
  have mi : ∀ k : Nat, (if ((w.size / 2 : Nat) : Int) < (k : Int) then ((w.size / 2 : Nat) : Int) else (k : Int)) = ((min k (w.size / 2) : Nat) : Int) := λk => by
    by_cases h : w.size / 2 < k
    · rw [if_pos (by omega), Nat.min_eq_right (by omega)]
    · rw [if_neg (by omega), Nat.min_eq_left (by omega)]
  rw [mi i, mi j]
  have a1 := Nat.min_le_right i (w.size / 2)
  have a2 := Nat.min_le_right j (w.size / 2)
  have fin : ∀ s, s = cgV w i j → Done cgC ⟨w, i, j⟩ F (returned (string s)) [(0, F)] := λs e => ⟨(), fo_tv, by rw [e] <;> rfl, Ent.pick [0] rfl rfl⟩
  unfold cgV at fin
  generalize min i (w.size / 2) = i at *
  generalize min j (w.size / 2) = j at *
  refine br_decide (λh => fin _ ?_) (λh => ⟨⟨by omega, by omega⟩, ⟨by omega, by omega⟩, ⟨by omega, by omega, by omega⟩, fin _ ?_⟩)
  · rw [fo_df (by omega), fo_cf]
  · rw [fo_dt (by omega), fo_ct, show (2 * (i : Int)).toNat = 2 * i by omega, show (2 * (j : Int)).toNat = 2 * j by omega]
theorem cg_ok : fo_k 122 cgC := fo 26 Tryz.func122 (λ_ _ => [(1, 3, .c lenC [] []), (1, 8, .c lenC [] [])]) [] fo_i fo_i fo_o [] cg_vc
abbrev wrdC2 : Con where
  X := JrX
  Y := Unit
  args x := [.pointer (some ⟨x.b, 0, none⟩), .string x.s]
  pre _ := []
  cond x := x.w.size ≤ 1048576 ∧ x.i ≤ 1048576 ∧ x.s.size ≤ 1048576 ∧ cgV x.w x.i (x.i + x.s.size) ≠ wideV x.s
  rdc x F := JrIn x F ∧ Utf F
  rel _ _ := True
  val _ _ := .returned (.bool false)
  post _ _ := []
  rmono _ _ _ hs h := ⟨h.1.sub hs, h.2.sub hs⟩
def T92 := fo_C1 122 cgC (λw0 => w0.w.size ≤ 1048576 ∧ w0.i ≤ 2097152 ∧ w0.j ≤ 2097152)
theorem wrd2_vc (x : JrX) (F : Atom) (hc : wrdC2.cond x) (hr : wrdC2.rdc x F) :
 true = true ∧ T25 F ⟨x.b, 0, none⟩ (λh => T60 F ⟨x.b, 1, none⟩ (λg => T60 F ⟨x.b, 1, none⟩ (λf => fo_rI (f + x.s.size) ∧ T92 [fo_vs h, fo_vi g, fo_vi (f + x.s.size)] (λe d => T55 [fo_vs x.s] (q114 F) (λc b => Br (!(cgV e.w e.i e.j).toList == (wideV c.s).toList) (Done wrdC2 x F q54 [(0, F)]) (T60 F ⟨x.b, 1, none⟩ (λa => fo_rI (a + x.s.size) ∧ False))))))) := by
  delta T25 T60 T92 q238 T55 q114 q54 fo_aR fo_rI fo_C1 fo_C2 fo_vi fo_vs fo_vb fo_rt
  obtain ⟨h1, h2, h3, h4⟩ := hc
  obtain ⟨hr, hu⟩ := hr
  have hr : JrIn x F := hr
  refine ⟨rfl, x.w, hr.l0, x.i, hr.l1, x.i, hr.l1, ⟨by omega, by omega⟩, cg_ok, rfl, ⟨x.w, x.i, x.i + x.s.size⟩, rfl, rfl, ⟨h1, by dsimp only; omega, by dsimp only; omega⟩, fo_tv, λ_ _ => ⟨wp_ok, rfl, ⟨x.s⟩, rfl, rfl, h3, Utf.rest (j := 0) (by simp) hu, λ_ _ => ?_⟩⟩
  have e : (!(cgV x.w x.i (x.i + x.s.size)).toList == (wideV x.s).toList) = true := by
    cases hb : (cgV x.w x.i (x.i + x.s.size)).toList == (wideV x.s).toList with
    | false => rfl
    | true => exact (h4 ((bEq_eq _ _).1 hb)).elim
  dsimp only
  rw [e]
  exact ⟨(), fo_tv, rfl, Ent.pick [0] rfl rfl⟩
theorem wrd2_ok : fo_k 129 wrdC2 := fo 33 Tryz.func129 (λ_ _ => [(1, 3, .q [.ex 0 .str]), (1, 7, .q [.ex 0 (.int .i64)]), (1, 11, .q [.ex 0 (.int .i64)]), (1, 15, .c cgC [] []), (1, 17, .c wC [] []), (3, 3, .q [.ex 0 (.int .i64)])]) [(3, 9, OH.w [])] fo_i fo_i fo_o [] wrd2_vc
end
section
open Go
def utC (cs : List Nat) : List Nat := cs.flatMap encL
def wdL (cs : List Nat) : List Nat := cs.flatMap wideC
def Scs (cs : List Nat) : Prop := ∀ c ∈ cs, Sc c
theorem Scs.hd {c : Nat} {cs : List Nat} (h : Scs (c :: cs)) : Sc c := h c fo_mc
theorem Scs.tl {c : Nat} {cs : List Nat} (h : Scs (c :: cs)) : Scs cs := λd hd => h d (fo_mm _ hd)
theorem Scs.app {a b : List Nat} (h : Scs a) (h' : Scs b) : Scs (a ++ b) := λc hc => (List.mem_append.1 hc).elim (h c) (h' c)
theorem Scs.low {a : List Nat} (h : ∀ c ∈ a, c < 128) : Scs a := λc hc => .inl (by have := h c hc; omega)
def Bys (l : List Nat) : Prop := ∀ b ∈ l, b < 256
theorem utC_lt {cs : List Nat} (h : Scs cs) : Bys (utC cs) := λb hb => by
  obtain ⟨c, hc, hb⟩ := List.mem_flatMap.1 hb
  exact encL_lt (h c hc) b hb
theorem wdL_app (a b : List Nat) : wdL (a ++ b) = wdL a ++ wdL b := List.flatMap_append
structure AtB (s : ByteArray) (i : Nat) (l : List Nat) : Prop where
  sz : i + l.length ≤ s.size
  at_ : ∀ k, k < l.length → bt s (i + k) = l.getD k 0
theorem AtB.self {l : List Nat} (h : Bys l) : AtB (btL l) 0 l := ⟨by rw [btL_size]; omega, λk _ => by rw [fo_za, bt_btL h]⟩
theorem AtB.left {s : ByteArray} {i : Nat} {a b : List Nat} (h : AtB s i (a ++ b)) : AtB s i a := by
  obtain ⟨h1, h2⟩ := h
  rw [fo_la] at h1 h2
  refine ⟨by omega, λk hk => ?_⟩
  rw [h2 k (by omega), fo_gd, fo_gd, fo_gl hk]
theorem AtB.right {s : ByteArray} {i : Nat} {a b : List Nat} (h : AtB s i (a ++ b)) : AtB s (i + a.length) b := by
  obtain ⟨h1, h2⟩ := h
  rw [fo_la] at h1 h2
  refine ⟨by omega, λk hk => ?_⟩
  rw [Nat.add_assoc, h2 _ (by omega), fo_gd, fo_gd, fo_gr2 (by omega), Nat.add_sub_cancel_left]
theorem AtB.app {s : ByteArray} {i : Nat} {a b : List Nat} (h : AtB s i a) (h' : AtB s (i + a.length) b) : AtB s i (a ++ b) := by
  obtain ⟨h1, h2⟩ := h
  obtain ⟨h3, h4⟩ := h'
  refine ⟨by rw [fo_la]; omega, λk hk => ?_⟩
  rw [fo_la] at hk
  rw [fo_gd]
  by_cases c : k < a.length
  · rw [fo_gl c, ← fo_gd]; exact h2 k c
  · rw [fo_gr2 (by omega), ← fo_gd, ← h4 _ (by omega)]
    congr 1; omega
theorem ba_ext {a b : ByteArray} (hs : a.size = b.size) (h : ∀ k, k < a.size → bt a k = bt b k) : a = b := by
  apply ByteArray.ext
  apply Array.ext
  · exact hs
  · intro k h1 h2
    have h1' : k < a.size := h1
    have := h k h1'
    unfold bt at this
    rw [Array.getElem?_eq_getElem h1, Array.getElem?_eq_getElem h2] at this
    exact UInt8.toNat_inj.1 this
theorem bt_ex (s : ByteArray) {i j k : Nat} (hj : j ≤ s.size) (hk : i + k < j) : bt (s.extract i j) k = bt s (i + k) := by
  unfold bt
  rw [show (s.extract i j).data = s.data.extract i j from ByteArray.data_extract, Array.getElem?_extract]
  have : s.data.size = s.size := rfl
  rw [if_pos (by omega)]
theorem AtB.ext {s : ByteArray} {i j : Nat} {l : List Nat} (h : AtB s i l) (hl : Bys l) (hj : j = i + l.length) : s.extract i j = btL l := by
  subst hj
  have hsz : (s.extract i (i + l.length)).size = l.length := by rw [fo_se]; have := h.sz; omega
  refine ba_ext (by rw [hsz, btL_size]) λk hk => ?_
  rw [hsz] at hk
  rw [bt_ex s h.sz (by omega), h.at_ k hk, bt_btL hl]
def baL (s : ByteArray) : List Nat := s.data.toList.map UInt8.toNat
theorem baL_len (s : ByteArray) : (baL s).length = s.size := by unfold baL; rw [List.length_map] <;> rfl
theorem baL_lt (s : ByteArray) : Bys (baL s) := λb hb => by
  obtain ⟨u, _, rfl⟩ := List.mem_map.1 hb
  exact u.toNat_lt
theorem btL_baL (s : ByteArray) : btL (baL s) = s := by
  unfold btL baL
  rw [List.map_map]
  have : (λn => UInt8.ofNat n) ∘ UInt8.toNat = id := by funext u; simp
  rw [this, List.map_id]
theorem encL_pos (c : Nat) : 1 ≤ (encL c).length := by
  unfold encL
  repeat' split
  all_goals simp
theorem next_at {s : ByteArray} {i c : Nat} (h : Sc c) (ha : AtB s i (encL c)) : nextV s i = some (c, (encL c).length) := by
  obtain ⟨hs, hb⟩ := ha
  have hl := encL_pos c
  have h0 := hb 0 hl
  rw [Nat.add_zero] at h0
  unfold Sc at h
  have key : Lib.decodeN (s.size - i) (bt s i) (bt s (i + 1)) (bt s (i + 2)) (bt s (i + 3)) = (c, (encL c).length) := by
    obtain ⟨n, hn⟩ : ∃ n, n = s.size - i := ⟨_, rfl⟩
    rw [← hn]
    have hln : (encL c).length ≤ n := by omega
    clear hn hs
    unfold encL at h0 hb hln ⊢
    by_cases h1 : c < 128
    · rw [if_pos h1] at h0 hb hln ⊢
      have h0 : bt s i = c := h0
      show _ = (c, 1)
      unfold Lib.decodeN
      rw [h0, if_pos h1]
    rw [if_neg h1] at h0 hb hln ⊢
    by_cases h2 : c < 2048
    · rw [if_pos h2] at h0 hb hln ⊢
      have h0 : bt s i = 192 + c / 64 := h0
      have e1 : bt s (i + 1) = 128 + c % 64 := hb 1 (by simp)
      have hln : 2 ≤ n := hln
      show _ = (c, 2)
      unfold Lib.decodeN
      rw [h0, e1, if_neg (by omega), if_pos (by omega), if_pos (by omega)]
      congr 1; omega
    rw [if_neg h2] at h0 hb hln ⊢
    by_cases h3 : c < 65536
    · rw [if_pos h3] at h0 hb hln ⊢
      have h0 : bt s i = 224 + c / 4096 := h0
      have e1 : bt s (i + 1) = 128 + c / 64 % 64 := hb 1 (by simp)
      have e2 : bt s (i + 2) = 128 + c % 64 := hb 2 (by simp)
      have hln : 3 ≤ n := hln
      show _ = (c, 3)
      have e : (224 + c / 4096) % 16 * 4096 + (128 + c / 64 % 64) % 64 * 64 + (128 + c % 64) % 64 = c := by omega
      unfold Lib.decodeN
      rw [h0, e1, e2, if_neg (by omega), if_neg (by omega), if_pos (by omega), e, if_pos (by omega)]
    rw [if_neg h3] at h0 hb hln ⊢
    have h0 : bt s i = 240 + c / 262144 := h0
    have e1 : bt s (i + 1) = 128 + c / 4096 % 64 := hb 1 (by simp)
    have e2 : bt s (i + 2) = 128 + c / 64 % 64 := hb 2 (by simp)
    have e3 : bt s (i + 3) = 128 + c % 64 := hb 3 (by simp)
    have hln : 4 ≤ n := hln
    show _ = (c, 4)
    have e : (240 + c / 262144) % 8 * 262144 + (128 + c / 4096 % 64) % 64 * 4096 + (128 + c / 64 % 64) % 64 * 64 + (128 + c % 64) % 64 = c := by omega
    unfold Lib.decodeN
    rw [h0, e1, e2, e3, if_neg (by omega), if_neg (by omega), if_neg (by omega), if_pos (by omega), e, if_pos (by omega)]
  unfold nextV
  rw [key, fo_dt (show i < s.size by omega), fo_ct]
  have hn : (c == 65533 && (encL c).length == 1) = false := by
    by_cases h1 : c = 65533
    · subst h1; rfl
    · rw [fo_bf.2 h1] <;> rfl
  show (bif c == 65533 && (encL c).length == 1 then none else some (c, (encL c).length)) = _
  rw [hn] <;> rfl
theorem dec_back {n b0 b1 b2 b3 c k : Nat} (g0 : b0 < 256) (g1 : b1 < 256) (g2 : b2 < 256) (g3 : b3 < 256) (h : Lib.decodeN n b0 b1 b2 b3 = (c, k)) (hn : ¬ (c = 65533 ∧ k = 1)) : encL c = [b0, b1, b2, b3].take k ∧ (1 ≤ k ∧ k ≤ 4) := by
  unfold Lib.decodeN at h
  split at h
  · rename_i q
    have e1 := (Prod.mk.inj h).1
    have e2 := (Prod.mk.inj h).2
    subst e1 e2
    exact ⟨by unfold encL; rw [if_pos q] <;> rfl, by decide, by decide⟩
  split at h
  · rename_i q1 q2
    split at h
    · rename_i q3
      have e1 := (Prod.mk.inj h).1
      have e2 := (Prod.mk.inj h).2
      subst e2
      refine ⟨?_, by decide, by decide⟩
      unfold encL
      rw [if_neg (by omega), if_pos (by omega)]
      show [192 + c / 64, 128 + c % 64] = [b0, b1]
      rw [show 192 + c / 64 = b0 by omega, show 128 + c % 64 = b1 by omega]
    · exact (hn ⟨(Prod.mk.inj h).1.symm, (Prod.mk.inj h).2.symm⟩).elim
  split at h
  · rename_i q1 q2 q4
    split at h
    · rename_i q3
      have e1 := (Prod.mk.inj h).1
      have e2 := (Prod.mk.inj h).2
      subst e2
      refine ⟨?_, by decide, by decide⟩
      unfold encL
      rw [if_neg (by omega), if_neg (by omega), if_pos (by omega)]
      show [224 + c / 4096, 128 + c / 64 % 64, 128 + c % 64] = [b0, b1, b2]
      rw [show 224 + c / 4096 = b0 by omega, show 128 + c / 64 % 64 = b1 by omega, show 128 + c % 64 = b2 by omega]
    · exact (hn ⟨(Prod.mk.inj h).1.symm, (Prod.mk.inj h).2.symm⟩).elim
  split at h
  · rename_i q1 q2 q4 q5
    split at h
    · rename_i q3
      have e1 := (Prod.mk.inj h).1
      have e2 := (Prod.mk.inj h).2
      subst e2
      refine ⟨?_, by decide, by decide⟩
      unfold encL
      rw [if_neg (by omega), if_neg (by omega), if_neg (by omega)]
      show [240 + c / 262144, 128 + c / 4096 % 64, 128 + c / 64 % 64, 128 + c % 64] = [b0, b1, b2, b3]
      rw [show 240 + c / 262144 = b0 by omega, show 128 + c / 4096 % 64 = b1 by omega, show 128 + c / 64 % 64 = b2 by omega, show 128 + c % 64 = b3 by omega]
    · exact (hn ⟨(Prod.mk.inj h).1.symm, (Prod.mk.inj h).2.symm⟩).elim
  · exact (hn ⟨(Prod.mk.inj h).1.symm, (Prod.mk.inj h).2.symm⟩).elim
theorem next_back {s : ByteArray} {i c n : Nat} (h : nextV s i = some (c, n)) : AtB s i (encL c) ∧ n = (encL c).length := by
  have hf := next_facts h
  unfold nextV at h
  have hi : i < s.size := by omega
  rw [fo_dt hi, fo_ct] at h
  generalize hd : Lib.decodeN (s.size - i) (bt s i) (bt s (i + 1)) (bt s (i + 2)) (bt s (i + 3)) = d at h
  obtain ⟨c', n'⟩ := d
  have h' : (bif c' == 65533 && n' == 1 then (none : Option (Nat × Nat)) else some (c', n')) = some (c, n) := h
  have hn : ¬ (c' = 65533 ∧ n' = 1) := λhh => by rw [hh.1, hh.2] at h'; cases h'
  have hb : (c' == 65533 && n' == 1) = false := by
    cases e : (c' == 65533 && n' == 1) with
    | false => rfl
    | true => rw [fo_bae, beq_iff_eq, beq_iff_eq] at e; exact (hn e).elim
  rw [hb] at h'
  cases h'
  obtain ⟨k1, k2, k3⟩ := dec_back (bt_lt' s i) (bt_lt' s (i + 1)) (bt_lt' s (i + 2)) (bt_lt' s (i + 3)) hd hn
  rw [k1]
  have hl : ([bt s i, bt s (i + 1), bt s (i + 2), bt s (i + 3)].take n).length = n := by rw [List.length_take]; simp; omega
  refine ⟨⟨by rw [hl]; omega, λk hk => ?_⟩, hl.symm⟩
  rw [hl] at hk
  rw [fo_gd, List.getElem?_take_of_lt hk, ← fo_gd]
  have : k = 0 ∨ k = 1 ∨ k = 2 ∨ k = 3 := by omega
  rcases this with rfl | rfl | rfl | rfl <;> rfl
theorem utC_cons (c : Nat) (cs : List Nat) : utC (c :: cs) = encL c ++ utC cs := rfl
theorem wdL_cons (c : Nat) (cs : List Nat) : wdL (c :: cs) = wideC c ++ wdL cs := rfl
theorem wideF_at (s : ByteArray) : ∀ (cs : List Nat) (f i : Nat) (o : List Nat), Scs cs → AtB s i (utC cs) → s.size = i + (utC cs).length → s.size < i + f → wideF s f i o = o ++ wdL cs
  | [], f, i, o, _, _, h1, h2 => by
    have h1 : s.size = i := h1
    obtain ⟨f, rfl⟩ : ∃ g, f = g + 1 := ⟨f - 1, by omega⟩
    rw [wideF, fo_df (by omega), fo_cf]
    exact (fo_an o).symm
  | c :: cs, f, i, o, h0, ha, h1, h2 => by
    obtain ⟨f, rfl⟩ : ∃ g, f = g + 1 := ⟨f - 1, by omega⟩
    rw [utC_cons] at ha h1
    have hp := encL_pos c
    rw [fo_la] at h1
    rw [wideF, fo_dt (by omega), fo_ct, next_at h0.hd ha.left]
    show wideF s f (i + (encL c).length) (o ++ wideC c) = _
    rw [wideF_at s cs f _ _ h0.tl ha.right (by omega) (by omega), wdL_cons, fo_aa]
theorem wide_ut {cs : List Nat} (h : Scs cs) : wideV (btL (utC cs)) = btL (wdL cs) := by
  unfold wideV
  rw [wideF_at _ cs _ 0 [] h (AtB.self (utC_lt h)) (by rw [btL_size]; omega) (by omega)] <;> rfl
theorem okF_at (s : ByteArray) : ∀ (cs : List Nat) (f i : Nat), Scs cs → AtB s i (utC cs) → s.size = i + (utC cs).length → s.size < i + f → okF s f i = true
  | [], f, i, _, _, h1, h2 => by
    have h1 : s.size = i := h1
    obtain ⟨f, rfl⟩ : ∃ g, f = g + 1 := ⟨f - 1, by omega⟩
    rw [okF, fo_df (by omega), fo_cf]
  | c :: cs, f, i, h0, ha, h1, h2 => by
    obtain ⟨f, rfl⟩ : ∃ g, f = g + 1 := ⟨f - 1, by omega⟩
    rw [utC_cons] at ha h1
    have hp := encL_pos c
    rw [fo_la] at h1
    rw [okF, fo_dt (by omega), fo_ct, next_at h0.hd ha.left]
    exact okF_at s cs f _ h0.tl ha.right (by omega) (by omega)
theorem ok_ut {cs : List Nat} (h : Scs cs) : okV (btL (utC cs)) = true :=
  okF_at _ cs _ 0 h (AtB.self (utC_lt h)) (by rw [btL_size]; omega) (by omega)
theorem okF_back (s : ByteArray) : ∀ (f i : Nat), i ≤ s.size → s.size < i + f → okF s f i = true → ∃ cs, Scs cs ∧ AtB s i (utC cs) ∧ s.size = i + (utC cs).length
  | 0, i, h1, h2, _ => by omega
  | f + 1, i, h1, h2, h => by
    rw [okF] at h
    by_cases hi : i < s.size
    · rw [fo_dt hi, fo_ct] at h
      cases hn : nextV s i with
      | none => rw [hn] at h; cases h
      | some p =>
        obtain ⟨c, n⟩ := p
        rw [hn] at h
        have hf := next_facts hn
        obtain ⟨g1, g2⟩ := next_back hn
        obtain ⟨cs, k1, k2, k3⟩ := okF_back s f (i + n) hf.1 (by omega) h
        refine ⟨c :: cs, λd hd => ?_, ?_, ?_⟩
        · rcases List.mem_cons.1 hd with rfl | hd
          · exact next_sc hn
          · exact k1 d hd
        · rw [g2] at k2
          exact g1.app k2
        · rw [utC_cons, fo_la]; omega
    · exact ⟨[], (λ_ hd => nomatch hd), ⟨(by show i + 0 ≤ _; omega), λk hk => absurd hk (Nat.not_lt_zero _)⟩, (by show _ = i + 0; omega)⟩
theorem ok_back {s : ByteArray} (h : okV s = true) : ∃ cs, Scs cs ∧ s = btL (utC cs) := by
  obtain ⟨cs, h1, h2, h3⟩ := okF_back s _ 0 (fo_zl _) (by omega) h
  refine ⟨cs, h1, ?_⟩
  rw [← h2.ext (utC_lt h1) h3, ext_all]
def unU (c : Nat) : List Nat := bif decide (c > 65535) then [55296 + (c - 65536) / 1024, 56320 + (c - 65536) % 1024] else [c]
def unL (cs : List Nat) : List Nat := cs.flatMap unU
def pr2 (us : List Nat) : List Nat := us.flatMap λu => [u / 256, u % 256]
theorem pr2_app (a b : List Nat) : pr2 (a ++ b) = pr2 a ++ pr2 b := List.flatMap_append
theorem unL_app (a b : List Nat) : unL (a ++ b) = unL a ++ unL b := List.flatMap_append
theorem unL_cons (c : Nat) (cs : List Nat) : unL (c :: cs) = unU c ++ unL cs := rfl
theorem wideC_un (c : Nat) : wideC c = pr2 (unU c) := by
  unfold wideC unU
  cases decide (c > 65535) <;> rfl
theorem wdL_un : ∀ cs : List Nat, wdL cs = pr2 (unL cs)
  | [] => rfl
  | c :: cs => by rw [wdL_cons, unL_cons, pr2_app, wideC_un, wdL_un cs]
theorem pr2_len : ∀ us : List Nat, (pr2 us).length = 2 * us.length
  | [] => rfl
  | u :: us => by
    show ([u / 256, u % 256] ++ pr2 us).length = _
    rw [fo_la, pr2_len us, fo_lc]
    show 2 + 2 * us.length = 2 * (us.length + 1)
    omega
def Uns (us : List Nat) : Prop := ∀ u ∈ us, u < 65536
theorem unC_lt {c : Nat} (h : Sc c) : Uns (unU c) := λu hu => by
  unfold Sc at h
  unfold unU at hu
  by_cases h1 : c > 65535
  · rw [fo_dt h1, fo_ct] at hu
    simp only [List.mem_cons, List.not_mem_nil, or_false] at hu
    omega
  · rw [fo_df h1, fo_cf] at hu
    simp only [List.mem_cons, List.not_mem_nil, or_false] at hu
    omega
theorem unL_lt {cs : List Nat} (h : Scs cs) : Uns (unL cs) := λu hu => by
  obtain ⟨c, hc, hu⟩ := List.mem_flatMap.1 hu
  exact unC_lt (h c hc) u hu
theorem unC_pos (c : Nat) : 1 ≤ (unU c).length := by unfold unU; cases decide (c > 65535) <;> simp
structure UAt (w : ByteArray) (i : Nat) (l : List Nat) : Prop where
  sz : i + l.length ≤ w.size / 2
  at_ : ∀ k, k < l.length → unitN w (i + k) = l.getD k 0
theorem UAt.left {s : ByteArray} {i : Nat} {a b : List Nat} (h : UAt s i (a ++ b)) : UAt s i a := by
  obtain ⟨h1, h2⟩ := h
  rw [fo_la] at h1 h2
  refine ⟨by omega, λk hk => ?_⟩
  rw [h2 k (by omega), fo_gd, fo_gd, fo_gl hk]
theorem UAt.right {s : ByteArray} {i : Nat} {a b : List Nat} (h : UAt s i (a ++ b)) : UAt s (i + a.length) b := by
  obtain ⟨h1, h2⟩ := h
  rw [fo_la] at h1 h2
  refine ⟨by omega, λk hk => ?_⟩
  rw [Nat.add_assoc, h2 _ (by omega), fo_gd, fo_gd, fo_gr2 (by omega), Nat.add_sub_cancel_left]
theorem UAt.hd {s : ByteArray} {i u : Nat} {b : List Nat} (h : UAt s i (u :: b)) : i < s.size / 2 ∧ unitN s i = u := ⟨by have := h.sz; rw [fo_lc] at this; omega, h.at_ 0 (by simp)⟩
theorem UAt.tl {s : ByteArray} {i u : Nat} {b : List Nat} (h : UAt s i (u :: b)) : UAt s (i + 1) b := UAt.right (a := [u]) h
theorem UAt.pk {s : ByteArray} {i u : Nat} {b : List Nat} (h : UAt s i (u :: b)) : jpkR0 s i = (u : Int) := by
  unfold jpkR0
  rw [fo_dt h.hd.1, fo_ct, h.hd.2]
theorem pr2_at : ∀ (us : List Nat) (k : Nat), k < us.length → (pr2 us).getD (2 * k) 0 = us.getD k 0 / 256 ∧ (pr2 us).getD (2 * k + 1) 0 = us.getD k 0 % 256
  | u :: us, 0, _ => ⟨rfl, rfl⟩
  | u :: us, k + 1, h => pr2_at us k (by simpa using h)
theorem UAt.self {us : List Nat} (h : Uns us) : UAt (btL (pr2 us)) 0 us := by
  have hl : Bys (pr2 us) := λb hb => by
    obtain ⟨u, hu, hb⟩ := List.mem_flatMap.1 hb
    have := h u hu
    simp only [List.mem_cons, List.not_mem_nil, or_false] at hb
    omega
  have hz : (btL (pr2 us)).size / 2 = us.length := by rw [btL_size, pr2_len]; omega
  refine ⟨by omega, λk hk => ?_⟩
  obtain ⟨g1, g2⟩ := pr2_at us k hk
  rw [fo_za]
  unfold unitN
  rw [fo_dt (by omega), fo_ct, bt_btL hl, bt_btL hl, g1, g2]
  omega
theorem unV_N (w : ByteArray) (i : Nat) : unV w i = unitN w i := rfl
theorem nrC_at {w : ByteArray} {i c : Nat} (h : Sc c) (ha : UAt w i (unU c)) : nrC w i = (c, (unU c).length) := by
  unfold Sc at h
  obtain ⟨h1, h2⟩ := ha
  unfold unU at h1 h2 ⊢
  have hC : nrC w i = bif decide (55296 ≤ unitN w i) && decide (unitN w i < 57344) then (bif decide (unitN w i < 56320) && (decide (i + 1 < w.size / 2) && (decide (56320 ≤ unitN w (i + 1)) && decide (unitN w (i + 1) < 57344))) then (65536 + (unitN w i - 55296) * 1024 + (unitN w (i + 1) - 56320), 2) else (65533, 1)) else (unitN w i, 1) := rfl
  rw [hC]
  by_cases hc : c > 65535
  · rw [fo_dt hc, fo_ct] at h1 h2 ⊢
    have f0 : ∀ a b : Nat, [a, b].getD 0 0 = a := λ_ _ => rfl
    have f1 : ∀ a b : Nat, [a, b].getD 1 0 = b := λ_ _ => rfl
    have fl : ∀ a b : Nat, [a, b].length = 2 := λ_ _ => rfl
    rw [fl] at h1
    have eNul := h2 0 (by rw [fl]; decide)
    have e1 := h2 1 (by rw [fl]; decide)
    rw [f0, Nat.add_zero] at eNul
    rw [f1] at e1
    rw [eNul, e1, fo_dt (show 55296 ≤ 55296 + (c - 65536) / 1024 by omega), fo_dt (show 55296 + (c - 65536) / 1024 < 57344 by omega), fo_dt (show 55296 + (c - 65536) / 1024 < 56320 by omega), fo_dt (show i + 1 < w.size / 2 by omega), fo_dt (show 56320 ≤ 56320 + (c - 65536) % 1024 by omega), fo_dt (show 56320 + (c - 65536) % 1024 < 57344 by omega)]
    have key : ∀ q r : Nat, 65536 + (55296 + q - 55296) * 1024 + (56320 + r - 56320) = 65536 + q * 1024 + r := λq r => by
      rw [Nat.add_sub_cancel_left, Nat.add_sub_cancel_left]
    rw [key, show 65536 + (c - 65536) / 1024 * 1024 + (c - 65536) % 1024 = c by omega, fl] <;> rfl
  · rw [fo_df hc, fo_cf] at h1 h2 ⊢
    have eNul : unitN w i = c := h2 0 (by simp)
    have hf : (decide (55296 ≤ c) && decide (c < 57344)) = false := by
      rw [Bool.and_eq_false_iff, decide_eq_false_iff_not, decide_eq_false_iff_not]; omega
    rw [eNul, hf] <;> rfl
theorem nrF_at (w : ByteArray) : ∀ (cs : List Nat) (f i : Nat) (o : List Nat), Scs cs → UAt w i (unL cs) → w.size / 2 = i + (unL cs).length → w.size / 2 < i + f → nrF w f i (btL o) = btL (o ++ utC cs)
  | [], f, i, o, _, _, h1, h2 => by
    have h1 : w.size / 2 = i := h1
    obtain ⟨f, rfl⟩ : ∃ g, f = g + 1 := ⟨f - 1, by omega⟩
    rw [nrF, fo_df (by omega), fo_cf]
    exact congrArg btL (fo_an o).symm
  | c :: cs, f, i, o, h0, ha, h1, h2 => by
    obtain ⟨f, rfl⟩ : ∃ g, f = g + 1 := ⟨f - 1, by omega⟩
    rw [unL_cons] at ha h1
    have hp := unC_pos c
    rw [fo_la] at h1
    rw [nrF, fo_dt (by omega), fo_ct, nrC_at h0.hd ha.left]
    show nrF w f (i + (unU c).length) (btL o ++ Utf8.encode c) = _
    rw [enc_btL h0.hd, btL_app, nrF_at w cs f _ _ h0.tl ha.right (by omega) (by omega), utC_cons, fo_aa]
def wid (cs : List Nat) : ByteArray := btL (wdL cs)
def utf (cs : List Nat) : ByteArray := btL (utC cs)
theorem wid_un (cs : List Nat) : wid cs = btL (pr2 (unL cs)) := by unfold wid; rw [wdL_un]
theorem wid_size (cs : List Nat) : (wid cs).size = 2 * (unL cs).length := by rw [wid_un, btL_size, pr2_len]
theorem wid_at {cs : List Nat} (h : Scs cs) : UAt (wid cs) 0 (unL cs) := by rw [wid_un]; exact UAt.self (unL_lt h)
theorem nr_wid {cs : List Nat} (h : Scs cs) : nrV (wid cs) = utf cs := by
  have hz := wid_size cs
  unfold nrV
  rw [beq_iff_eq.2 (show (wid cs).size % 2 = 0 by omega), fo_ct]
  have := nrF_at (wid cs) cs ((wid cs).size / 2 + 1) 0 [] h (wid_at h) (by omega) (by omega)
  exact this
theorem wide_utf {cs : List Nat} (h : Scs cs) : wideV (utf cs) = wid cs := wide_ut h
theorem ok_utf {cs : List Nat} (h : Scs cs) : okV (utf cs) = true := ok_ut h
theorem unC_le (c : Nat) : (unU c).length ≤ (encL c).length := by
  unfold unU encL
  by_cases h : c > 65535
  · rw [fo_dt h, if_neg (by omega), if_neg (by omega), if_neg (by omega)]; show 2 ≤ 4; decide
  · rw [fo_df h]
    repeat' split
    all_goals simp
theorem unL_le : ∀ cs : List Nat, (unL cs).length ≤ (utC cs).length
  | [] => fo_nr _
  | c :: cs => by
    rw [unL_cons, utC_cons, fo_la, fo_la]
    have := unC_le c
    have := unL_le cs
    omega
end
section
open Go
set_option maxHeartbeats 1000000
abbrev EscF := ByteArray → Nat → Option (Nat × Nat)
def jtx (E : EscF) (w : ByteArray) : Nat → Nat → ByteArray → Option (Nat × ByteArray)
  | 0, _, _ => none
  | f + 1, i, o => bif (jpkR0 w i != 34) then (bif decide (jpkR0 w i < 32) then none else (bif (jpkR0 w i == 92) then ((E w (i + 1)).bind λp => bif decide (p.1 < 65536) && decide (p.2 ≤ 1048576) then jtx E w f p.2 (o ++ btL [p.1 / 256, p.1 % 256]) else none) else jtx E w f (i + 1) (o ++ btL [unitN w i / 256, unitN w i % 256]))) else some (i + 1, o)
structure EsX where
  E : EscF
  b : Nat
  w : ByteArray
  i : Nat
  c : Nat
  j : Nat
abbrev esfC (E : EscF) : Con where
  X := EsX
  Y := Unit
  args x := [.pointer (some ⟨x.b, 0, none⟩)]
  pre x := [jrA x.b x.w x.i]
  cond x := x.w.size ≤ 1048576 ∧ x.i ≤ 1048576 ∧ E x.w x.i = some (x.c, x.j)
  rdc _ _ := True
  rel _ _ := True
  val x _ := .returned (.int .i64 x.c)
  post x _ := [jrA x.b x.w x.j]
structure TxfX where
  E : EscF
  b : Nat
  w : ByteArray
  i : Nat
  j : Nat
  o : ByteArray
abbrev txfC : Con where
  X := TxfX
  Y := Unit
  args x := [.pointer (some ⟨x.b, 0, none⟩)]
  pre x := [jrA x.b x.w x.i]
  cond x := (x.w.size ≤ 1048576 ∧ x.i ≤ 1048575 ∧ fo_k 180 (esfC x.E)) ∧ jpkR0 x.w x.i = 34 ∧ jtx x.E x.w (x.w.size + 1) (x.i + 1) ⟨#[]⟩ = some (x.j, x.o)
  rdc _ _ := True
  rel _ _ := True
  val x _ := .returned (.string x.o)
  post x _ := [jrA x.b x.w x.j]
structure TfS where
  b : Nat
  i : Nat
  o : ByteArray
  f : Nat
structure Tf2 where
  d : TfS
  k : Nat
  c : Nat
def TfS.ok (x : TxfX) (d : TfS) : Prop := d.i ≤ 1048576 ∧ d.o.size + 2 * d.f ≤ 4194304 ∧ jtx x.E x.w d.f d.i d.o = some (x.j, x.o)
def Tf2.ok (x : TxfX) (e : Tf2) : Prop := e.k ≤ 1048576 ∧ e.c < 65536 ∧ (e.d.o.size + 2 * e.d.f ≤ 4194304 ∧ 1 ≤ e.d.f) ∧ jtx x.E x.w (e.d.f - 1) e.k (e.d.o ++ btL [e.c / 256, e.c % 256]) = some (x.j, x.o)
def tfG : (T : Type) × (Tf2 → T) := ⟨TfS, λe => e.d⟩
def txfInv (x : TxfX) (F : Atom) : Nat → Option Inv := fun
  | 0 => some { X := TfS, P := λd => d.ok x, mu := λd => d.f, lv := λd => [(0, .pointer (some ⟨x.b, 0, none⟩)), (3, .pointer (some ⟨d.b, 0, none⟩))], st := λd => [bdA d.b d.o, jrA x.b x.w d.i, F] }
  | _ => none
def t7G : (T : Type) × (TfS → T) := ⟨TfS, λd => d⟩
def TfS.ok7 (x : TxfX) (d : TfS) : Prop := d.ok x ∧ 1 ≤ d.f ∧ jpkR0 x.w d.i ≠ 34 ∧ 32 ≤ jpkR0 x.w d.i
def txfCut (x : TxfX) (F : Atom) : Nat → Option Inv := fun
  | 7 => some { X := TfS, P := λd => d.ok7 x, mu := λ_ => 0, lv := λd => [(0, .pointer (some ⟨x.b, 0, none⟩)), (3, .pointer (some ⟨d.b, 0, none⟩)), (4, .int .i64 (unitN x.w d.i : Nat))], st := λd => [bdA d.b d.o, jrA x.b x.w d.i, F], gh := some t7G }
  | 10 => some { X := Tf2, P := λe => e.ok x, mu := λ_ => 0, lv := λe => [(0, .pointer (some ⟨x.b, 0, none⟩)), (3, .pointer (some ⟨e.d.b, 0, none⟩)), (4, .int .i64 e.c)], st := λe => [bdA e.d.b e.d.o, jrA x.b x.w e.k, F], gh := some tfG }
  | _ => none
def txfOv (_x : TxfX) (_F : Atom) : List (Nat × Nat × OH) := [(1, 1, .c mstC [0] [0]), (2, 0, .n 2000), (3, 1, .c pkfC [] []), (4, 1, .c pkfC [] []), (6, 1, .c nvrC [] []), (9, 1, .c (esfC _x.E) [1] [1]), (10, 2, .qo (cvQ .i64 .u8 256)), (10, 4, .qo (cvQ .i64 .u8 256)), (10, 5, .n 10050), (10, 6, .c wrP [0] [0]), (12, 0, .c bsP [0] [])]
def T93 := fo_C3 179 mstC (λw0 => w0.w.size ≤ 1048576 ∧ w0.i ≤ 1048576 ∧ jpkR0 w0.w w0.i = w0.c)
abbrev q147 (e0 : TxfX) : Option Addr := some ⟨e0.b, 0, none⟩
abbrev q222 (z : TfS) : Option Addr := some ⟨z.b, 0, none⟩
abbrev q67 (u : JrX) : List Value := [fo_vs u.w, fo_vi (↑(u.i + 1) : Int)]
abbrev q47 (z : TfS) (e0 : TxfX) (e2 : Atom) := [(0, fo_pr (Ex.rest (bdR z.b z.o) (bdB z.b))), (1, fo_cl e0.b [fo_vs e0.w, fo_vi ↑z.i] 138), (2, e2)]
def T94 (e0 : TxfX) (e1 : TfS) (e2 : Atom) (v0 v1 : Value) (ss : St) := ∃ (z : TfS), (TfS.ok7 e0 z ∧ t7G.snd z = e1) ∧ (fo_vp (q147 e0) = fo_vp (q147 e0) ∧ v0 = fo_vp (q222 z) ∧ v1 = fo_vi (↑(unitN e0.w z.i) : Int) ∧ True) ∧ Ent ss (q47 z e0 e2)
def T95 (e0 : TxfX) (e1 : TfS) (e2 : Atom) (v0 v1 : Value) (ss : St) := ∃ (z : Tf2), (Tf2.ok e0 z ∧ tfG.snd z = e1) ∧ (fo_vp (q147 e0) = fo_vp (q147 e0) ∧ v0 = fo_vp (some ⟨z.d.b, 0, none⟩) ∧ v1 = fo_vi ↑z.c ∧ True) ∧ Ent ss [(0, fo_pr (Ex.rest (bdR z.d.b z.d.o) (bdB z.d.b))), (1, fo_cl e0.b [fo_vs e0.w, fo_vi ↑z.k] 138), (2, e2)]
def T96 (oo : Oper) (aa : List Value) (k0 : Nat → Prop) := QOpOk Tryz.prog oo (cvQ i64 u8 256) ∧ ∃ (z : Nat), aa = [fo_vi ↑z] ∧ True ∧ k0 z
abbrev q227 (f e : Nat) : List Value := [fo_vc (↑(f % 256) : Int), fo_vc (↑(e % 256) : Int)]
theorem txf_vc (x : TxfX) (F : Atom) (hc : txfC.cond x) (hr : txfC.rdc x F) :
 T93 [fo_vp (q147 x), fo_vi 34] [fo_cl x.b [fo_vs x.w, fo_vi ↑x.i] 138] (λu t => ∀(s : Nat), (∃(a : TfS), TfS.ok x a ∧ (fo_vp (q147 x) = fo_vp (q147 x) ∧ fo_vp (q17 s) = fo_vp (q222 a) ∧ True) ∧ Ent [(0, fo_cl u.b (q67 u) 138), (1, F), (2000, fo_cl s q350 81)] (q47 a x F)) ∧ fo_vA λ(r : TfS) _ => TfS.ok x r → T90 [fo_vp (q147 x)] (fo_aR (q47 r x F) []) (λp o => Br (jpkR0 p.w p.i != 34) (T90 [fo_vp (q147 x)] (fo_aR (q47 r x F) []) (λn m => ∃(l : TfS), fo_Bd (jpkR0 n.w n.i < 32) (T91 [fo_vp (q147 x)] (λc b => T94 x l F (fo_vp (q222 r)) (fo_vi (jpkR0 n.w n.i)) (q47 r x F))) (T94 x l F (fo_vp (q222 r)) (fo_vi (jpkR0 n.w n.i)) (q47 r x F)) ∧ fo_vA λ(k : TfS) _ => (TfS.ok7 x k ∧ t7G.snd k = l) → fo_sm x.b 1 ∧ fo_rI ((k.i : Int) + 1) ∧ fo_sm x.b 1 ∧ ∃(i : TfS), Br ((↑(unitN x.w k.i) : Int) == 92) (fo_C3 180 (esfC x.E) (λc => c.w.size ≤ 1048576 ∧ c.i ≤ 1048576 ∧ x.E c.w c.i = some (c.c, c.j)) [fo_vp (q147 x)] [fo_cl x.b [fo_vs x.w, fo_vi ((k.i : Int) + 1)] 138] (λc b => T95 x i F (fo_vp (q222 k)) (fo_vi ↑c.c) [(0, fo_pr (Ex.rest (bdR k.b k.o) (bdB k.b))), (1, fo_cl c.b [fo_vs c.w, fo_vi ↑c.j] 138), (2, F)])) (T95 x i F (fo_vp (q222 k)) (fo_vi (↑(unitN x.w k.i) : Int)) [(0, fo_pr (Ex.rest (bdR k.b k.o) (bdB k.b))), (1, fo_cl x.b [fo_vs x.w, fo_vi ((k.i : Int) + 1)] 138), (2, F)]) ∧ fo_vA λ(h : Tf2) _ => (Tf2.ok x h ∧ tfG.snd h = i) → T96 (opIn Tryz.f128 10 2) [fo_vi ((h.c : Int).fdiv ((2 : Int) ^ min (Int.toNat (8 : Int)) i64.bits))] (λf => T96 (opIn Tryz.f128 10 4) [fo_vi ↑h.c] (λe => ∀(d : Nat), fo_C4 181 wrP (λc => (c.t.size + c.l.length ≤ 140737488355328 ∧ ∀(a : Nat), a ∈ c.l → a < 256)) (λc rr => Seg rr c.a (u8s c.l)) (λ_ _ => True) [fo_vp (some ⟨h.d.b, 0, none⟩), fo_vl (q17 d) 2 2] [fo_pr (Ex.rest (bdR h.d.b h.d.o) (bdB h.d.b))] (fo_aR [(0, fo_pr (Ex.rest (bdR h.d.b h.d.o) (bdB h.d.b))), (1, fo_cl x.b [fo_vs x.w, fo_vi ↑h.k] 138), (2, F), (10050, fo_cl d (q227 f e) 5)] [0]) (λc b => ∃(a : TfS), TfS.ok x a ∧ (fo_vp (q147 x) = fo_vp (q147 x) ∧ fo_vp (some ⟨h.d.b, 0, none⟩) = fo_vp (q222 a) ∧ True) ∧ Ent [(0, fo_pr (Ex.rest (bdR c.b (c.t ++ btL c.l)) (bdB c.b))), (1, fo_cl x.b [fo_vs x.w, fo_vi ↑h.k] 138), (2, F), (10050, fo_cl d (q227 f e) 5)] (q47 a x F) ∧ a.f < r.f))))) (fo_sm x.b 1 ∧ fo_rI ((r.i : Int) + 1) ∧ fo_sm x.b 1 ∧ T18 [fo_vp (q222 r)] [fo_pr (Ex.rest (bdR r.b r.o) (bdB r.b))] (λb a => Done txfC x F (fo_rt (fo_vs b.t)) [(0, fo_em), (1, fo_cl x.b [fo_vs x.w, fo_vi ((r.i : Int) + 1)] 138), (2, F)])))) := by
  delta T93 q147 q17 q222 q67 q350 q47 T90 T91 T94 T95 T96 q227 T18 fo_aR fo_sm fo_rI fo_C1 fo_C2 fo_C3 fo_C4 fo_vi fo_vc fo_vs fo_vp fo_vl fo_cl fo_pr fo_em fo_Bd fo_rt fo_vA
  obtain ⟨⟨hw, hi, hE⟩, h34, hx⟩ := hc
  have J : ∀ (k : Nat) (b : Nat) (o : ByteArray) (S : List Atom), JrIn ⟨x.b, x.w, k, ⟨#[]⟩, 0⟩ (.pred (rest (ofL [bdA b o, jrA x.b x.w k, F]) [])) := λk b o _ => JrIn.sub (sub_rest 1 (by simp) rfl) (.jr ⟨x.b, x.w, k, ⟨#[]⟩, 0⟩)
  refine ⟨mst_ok, rfl, ⟨x.b, x.w, x.i, ⟨#[]⟩, 34⟩, rfl, rfl, ⟨hw, by dsimp only; omega, h34⟩, fo_tv, λ_ _ b => ⟨⟨⟨b, x.i + 1, ⟨#[]⟩, x.w.size + 1⟩, ⟨by dsimp only; omega, ?_, hx⟩, ⟨rfl, rfl, fo_tv⟩, Ent.ex [0, 1] [2000, 999] ⟨none, nilRow⟩ (bd_new b) rfl rfl rfl⟩, ?_⟩⟩
  · show 0 + 2 * (x.w.size + 1) ≤ 4194304
    omega
  clear b
  rintro ⟨b, i, o, f⟩ js ⟨h1, h2, h3⟩
  dsimp only at h1 h2 h3 ⊢
  obtain ⟨f', rfl⟩ : ∃ f', f = f' + 1 := ⟨f - 1, by cases f with | zero => cases h3 | succ n => rfl⟩
  refine ⟨pkf_ok, rfl, ⟨x.b, x.w, i, ⟨#[]⟩, 0⟩, rfl, rfl, ⟨hw, h1⟩, J i b o [], λ_ _ => br_intro (λc1 => ?_) (λc1 => ?_)⟩
  · have c1 : (jpkR0 x.w i != 34) = true := c1
    have h3' := h3
    rw [jtx, c1, fo_ct] at h3
    refine ⟨pkf_ok, rfl, ⟨x.b, x.w, i, ⟨#[]⟩, 0⟩, rfl, rfl, ⟨hw, h1⟩, J i b o [], λ_ _ => ⟨⟨b, i, o, f' + 1⟩, br_decide (λc2 => ?_) (λc2 => ?_), ?_⟩⟩
    · rw [fo_dt c2, fo_ct] at h3
      cases h3
    · have c2 : ¬ jpkR0 x.w i < 32 := c2
      have c3 : jpkR0 x.w i ≠ 34 := by simpa using c1
      refine ⟨⟨b, i, o, f' + 1⟩, ⟨⟨⟨h1, h2, h3'⟩, Nat.succ_pos _, c3, by dsimp only; omega⟩, rfl⟩, ⟨rfl, rfl, ?_, fo_tv⟩, Ent.pick [0, 1, 2] rfl rfl⟩
      show int .i64 (jpkR0 x.w i) = _
      unfold jpkR0 at c2 ⊢
      cases hd : decide (i < x.w.size / 2) with
      | true => rfl
      | false => rw [hd, fo_cf] at c2; exact (c2 (by decide)).elim
    clear c1 h1 h2 h3 h3'
    rintro ⟨b', i', o', g⟩ js ⟨⟨⟨h1, h2, h3⟩, h4, c1, c2⟩, e⟩
    have e : TfS.mk b' i' o' g = ⟨b, i, o, f' + 1⟩ := e
    cases e
    dsimp only at h1 h2 h3 c1 c2 ⊢
    rw [jtx, show (jpkR0 x.w i != 34) = true by simpa using c1, fo_ct, fo_df (by omega), fo_cf] at h3
    have hin : i < x.w.size / 2 ∧ jpkR0 x.w i = (unitN x.w i : Int) := by
      unfold jpkR0 at c2 ⊢
      cases hd : decide (i < x.w.size / 2) with
      | true => exact ⟨fo_od1 hd, rfl⟩
      | false => rw [hd, fo_cf] at c2; exact absurd c2 (by decide)
    rw [hin.2] at h3
    refine ⟨⟨rfl, rfl⟩, ⟨by omega, by omega⟩, ⟨rfl, rfl⟩, ⟨b, i, o, f' + 1⟩, br_intro (λc4 => ?_) (λc4 => ?_), ?_⟩
    · rw [c4, fo_ct] at h3
      cases hE2 : x.E x.w (i + 1) with
      | none => rw [hE2] at h3; cases h3
      | some p =>
        obtain ⟨c, j⟩ := p
        rw [hE2, Option.bind_some] at h3
        cases hd : (decide (c < 65536) && decide (j ≤ 1048576)) with
        | false => rw [hd] at h3; cases h3
        | true =>
          rw [hd, fo_ct] at h3
          have hd2 : c < 65536 ∧ j ≤ 1048576 := by simpa using hd
          exact ⟨hE, rfl, ⟨x.E, x.b, x.w, i + 1, c, j⟩, rfl, rfl, ⟨hw, by dsimp only; omega, hE2⟩, fo_tv, λ_ _ => ⟨⟨⟨b, i, o, f' + 1⟩, j, c⟩, ⟨⟨hd2.2, hd2.1, ⟨h2, Nat.succ_pos _⟩, h3⟩, rfl⟩, ⟨rfl, rfl, rfl, fo_tv⟩, Ent.pick [0, 1, 2] rfl rfl⟩⟩
    · rw [c4, fo_cf] at h3
      exact ⟨⟨⟨b, i, o, f' + 1⟩, i + 1, unitN x.w i⟩, ⟨⟨by dsimp only; omega, unitN_lt _ _, ⟨h2, Nat.succ_pos _⟩, h3⟩, rfl⟩, ⟨rfl, rfl, rfl, fo_tv⟩, Ent.pick [0, 1, 2] rfl rfl⟩
    clear h1 h2 h3 c1 c2 hin h4
    rintro ⟨⟨b', i', o', g⟩, k, c⟩ js ⟨⟨h1, h2, ⟨h3, h4⟩, h5⟩, e⟩
    have e : TfS.mk b' i' o' g = ⟨b, i, o, f' + 1⟩ := e
    cases e
    dsimp only at h1 h2 h3 h5 ⊢
    have hm : c / 256 < 256 := by omega
    have hl : ∀ u ∈ [c / 256, c % 256], u < 256 := by
      intro u hu
      simp only [List.mem_cons, List.not_mem_nil, or_false] at hu
      omega
    refine ⟨cv_u8 rfl rfl rfl, c / 256, by rw [shr8], fo_tv, cv_u8 rfl rfl rfl, c, rfl, fo_tv, λd => ⟨wrp_ok, rfl, ⟨b, o, ⟨d, 0, none⟩, 2, [c / 256, c % 256]⟩, rfl, rfl, ⟨by simp only [fo_lc, List.length_nil]; omega, hl⟩, Seg.rest (j := 10050) (by simp) ?_, λ_ _ => ⟨⟨b, k, o ++ btL [c / 256, c % 256], f'⟩, ⟨h1, by rw [sz_app]; simp only [fo_lc, List.length_nil]; omega, h5⟩, ⟨rfl, rfl, fo_tv⟩, Ent.pick [0, 1, 2] rfl rfl, fo_ls _⟩⟩⟩
    rw [Nat.mod_eq_of_lt hm]
    exact Seg.cells (λj u hj => by rw [fo_za]; exact hj)
  · have c1 : (jpkR0 x.w i != 34) = false := c1
    rw [jtx, c1, fo_cf] at h3
    have h3 := Option.some.inj h3
    have e1 : i + 1 = x.j := (Prod.mk.inj h3).1
    have e2 : o = x.o := (Prod.mk.inj h3).2
    refine ⟨⟨rfl, rfl⟩, ⟨by omega, by omega⟩, ⟨rfl, rfl⟩, bsp_ok, rfl, ⟨b, o, ⟨#[]⟩, 0⟩, rfl, rfl, by dsimp only; omega, fo_tv, λ_ _ => ⟨(), fo_tv, by rw [e2] <;> rfl, Ent.pick [1, 2] rfl (by show _ = ofL [jrA x.b x.w x.j, F]; rw [← e1] <;> rfl)⟩⟩
theorem txf_ok : fo_k 128 txfC := fo 42 Tryz.func128 txfOv [(7, 3, OH.q [LH.aq (1 : Nat)]), (11, 3, OH.q [LH.aq (1 : Nat)]), (7, 7, OH.w [LH.aq (1 : Nat)]), (11, 7, OH.w [LH.aq (1 : Nat)])] txfInv txfCut fo_o [] txf_vc
end
end Go.Proofs.YtjdabjmjldiodaaGreatDoor
