/- A part of the proof that pennantlaw23.BasicHears answers true at every input. -/
import Derived.Test.YtjdabjmjldiodaaGreatDoorPHao
set_option linter.all false
namespace Go.Proofs.YtjdabjmjldiodaaGreatDoor
set_option maxRecDepth 100000
open Go.Value (int slice string bool pointer agg tuple func float iface nilIface)
open Go.IntKind (i64 u8 u64 i32 u32 u16 i8 i16)
open Go.FloatKind (f64)
open Go.Ending (returned panicked)
section
open Go
set_option maxHeartbeats 6000000
structure RphX where
  b : Nat
  left : Int
  l : TVs
  k : ByteArray
  v : ByteArray
structure RphX.ok (x : RphX) : Prop where
  h1 : 1 ≤ x.left
  h2 : x.left ≤ 10000
  hk : x.k.size ≤ 1048576
  hv : x.v.size % 2 = 0
  hl : x.l.length ≤ 10000
abbrev rpuhC : Con where
  X := RphX
  Y := Unit
  args x := [.pointer (some ⟨x.b, 0, none⟩), .int .i64 0, .string x.k, .agg #[.int .i64 4, .float .f64 0, .string x.v, .int .i64 0]]
  pre x := [rhA x.b x.left x.l]
  cond x := x.ok
  rdc _ _ := True
  rel _ _ := True
  val _ _ := .returned (.int .i64 0)
  post x _ := [rhA x.b (lfr x.k x.l x.left) (putV x.k x.v x.l)]
theorem rpuh_ok : fo_k 60 rpuhC :=
  rpu_ok.pk (D := rpuhC) (λx y => rhR x.l y) (λx y => rhB x.b x.left x.l y) (λ_ => rfl) (λx y => ⟨x.b, x.left, x.l, y, x.k, x.v⟩) (λ_ _ _ _ => rfl) (λ_ _ => rfl)
    (λ_ _ h hy => ⟨⟨h.h1, h.h2, h.hk, h.hv, h.hl⟩, hy⟩) (λ_ _ _ _ _ _ => fo_tv) λ_ _ _ _ _ hz => ⟨(), fo_tv, rfl, PostLe.ex hz⟩
structure TroX where
  b : Nat
  left : Int
  l : TVs
abbrev tdroC : Con where
  X := TroX
  Y := Unit
  args x := [.pointer (some ⟨x.b, 0, none⟩), .agg #[.int .i64 5, .float .f64 0, .string ⟨#[]⟩, .int .i64 0]]
  pre x := [rhA x.b x.left x.l]
  cond x := x.l.length ≤ 64 ∧ (∀ p ∈ x.l, p.1.size ≤ 16384 ∧ p.2.size ≤ 16384) ∧ (x.l.map (·.1)).Nodup
  rdc _ F := True
  rel _ _ := True
  val x _ := .returned (.tuple #[.string ((jsV (joQ x.l)).getD ⟨#[]⟩), .bool (jsV (joQ x.l)).isSome])
  post _ _ := []
theorem tdro_ok : fo_k 62 tdroC := ⟨λx F I w hc _ hs => by
  obtain ⟨h1, h2, h3⟩ := hc
  obtain ⟨y, hy, hs⟩ := ex_open hs
  have hg := Tr.good.ob y.i x.b x.l ⟨h1, h2, h3⟩
  have hin : RhIn y.i x.b x.l (.pred (rest (ofL (rhB x.b x.left x.l y ++ [F])) [])) := rhIn_of hy (by simp) (by simp) (by simp) rfl rfl rfl
  refine (tdr_ok.h _ (.pred (rest (ofL (rhB x.b x.left x.l y ++ [F])) [])) I w hg ⟨hin, hg⟩ (hs.part (touch := []) List.nodup_nil)).mono λe w' ⟨z, J, k1, k2, k3, k4, k5⟩ => ?_
  have k4 := Sat.join (post := []) (touch := []) (out := []) k4
  exact ⟨(), J, fo_tv, k2, k3, k4.pick [3] rfl rfl, k5⟩⟩
abbrev roC : Con where
  X := Unit
  Y := Unit
  args _ := [.int .i64 0]
  pre _ := []
  cond _ := True
  rdc _ _ := True
  rel _ _ := True
  val _ _ := .returned (.agg #[.int .i64 5, .float .f64 0, .string ⟨#[]⟩, .int .i64 0])
  post _ _ := []
theorem ro_vc (x : PUnit) (F : Atom) (hc : roC.cond x) (hr : roC.rdc x F) :
 ∀(a : Nat), fo_sm a 0 ∧ fo_sm a 1 ∧ fo_sm a 2 ∧ fo_sm a 3 ∧ fo_sm a 0 ∧ fo_sm a 1 ∧ fo_sm a 2 ∧ fo_sm a 3 ∧ Done roC x F (fo_rt (agg ⟨q14⟩)) [(0, F), (1, fo_cl a q14 30)] := by
  delta q14 fo_sm fo_vi fo_vs fo_cl fo_rt
  intro b
  repeat refine ⟨⟨rfl, rfl⟩, ?_⟩
  exact ⟨(), fo_tv, rfl, Ent.pick [0] rfl rfl⟩
theorem ro_ok : fo_k 63 roC := fo 5 Tryz.func63 (λ_ _ => [(0, 0, .n 1), (1, 2, .w (at4 1))]) [] fo_i fo_i fo_o [LH.aq 1, LH.aq 1, LH.aq 1, LH.aq 1] ro_vc
abbrev rhearC : Con := { hearC with cond := λx => x.r.ok ∧ x.r.b.size ≤ 16384, rdc := λ_ _ => True, rmono := λ_ _ _ _ h => h }
theorem wr_el (s : ByteArray) : ∀ (f fr i : Nat) (l : List ByteArray), fr ≤ i → (∀ j, fr ≤ j → j < i → blk4 (bt s j) = false) → (∀ p ∈ l, p.size > 0 ∧ ∀ j, j < p.size → blk4 (bt p j) = false) → ∀ p ∈ wrF s f fr i l, p.size > 0 ∧ ∀ j, j < p.size → blk4 (bt p j) = false
  | 0, _, _, _, _, _, h => h
  | f + 1, fr, i, l, hfi, hb, h => by
    rw [wrF]
    by_cases hi : i ≤ s.size
    · rw [fo_dt hi, fo_ct]
      cases hc : (i == s.size || blk4 (bt s i)) with
      | true =>
        rw [fo_ct]
        refine wr_el s f _ _ _ (fo_nr _) (λj h1 h2 => by omega) ?_
        by_cases hif : i > fr
        · rw [fo_dt hif, fo_ct]
          intro p hp
          rcases List.mem_append.1 hp with hp | hp
          · exact h p hp
          · rw [List.mem_singleton.1 hp]
            have hz : (s.extract fr i).size = i - fr := by rw [fo_se]; omega
            refine ⟨by omega, λj hj => ?_⟩
            rw [bt_extr (by omega) hi]
            exact hb _ (by omega) (by omega)
        · rw [fo_df hif]; exact h
      | false =>
        rw [fo_cf]
        rw [Bool.or_eq_false_iff] at hc
        exact wr_el s f _ _ _ (by omega) (λj h1 h2 => if e : j = i then e ▸ hc.2 else hb j h1 (by omega)) h
    · rw [fo_df hi]; exact h
theorem wr_end (s : ByteArray) (f : Nat) (l : List ByteArray) : wrF s f (s.size + 1) (s.size + 1) l = l := by
  cases f with
  | zero => rfl
  | succ f => rw [wrF, fo_df (show ¬ s.size + 1 ≤ s.size by omega)] <;> rfl
theorem wr_run (s : ByteArray) (h0 : s.size > 0) (hb : ∀ j, j < s.size → blk4 (bt s j) = false) : ∀ (f i : Nat), i ≤ s.size → s.size + 1 ≤ i + f → wrF s f 0 i [] = [s]
  | 0, i, h1, h2 => by omega
  | f + 1, i, h1, h2 => by
    rw [wrF, fo_dt h1, fo_ct]
    by_cases hi : i = s.size
    · have e : (i == s.size) = true := by rw [beq_iff_eq]; exact hi
      rw [e, Bool.true_or, fo_ct, fo_dt (show i > 0 by omega), fo_ct, hi, ext_all]
      exact wr_end s f _
    · have e : (i == s.size) = false := by rw [fo_bf]; exact hi
      rw [e, hb i (by omega), Bool.or_self, fo_cf]
      exact wr_run s h0 hb f (i + 1) (by omega) (by omega)
def nmOk (n : ByteArray) : Bool := decide (n.size = 0) || decide (run1 n (λb => !blk4 b) 0 < n.size)
theorem nm_iff (n : ByteArray) : nmOk n = false ↔ n.size > 0 ∧ ∀ j, j < n.size → blk4 (bt n j) = false := by
  have hr := rv_spec n (λb => !blk4 b) (n.size + 1) 0 (fo_zl _) (by omega)
  have hle := rv_le n (λb => !blk4 b) (n.size + 1) 0 (fo_zl _)
  unfold nmOk run1
  rw [Bool.or_eq_false_iff, decide_eq_false_iff_not, decide_eq_false_iff_not]
  constructor
  · intro ⟨h1, h2⟩
    refine ⟨by omega, λj hj => ?_⟩
    have := hr.1 j (fo_zl _) (by omega)
    simpa using this
  · intro ⟨h1, h2⟩
    refine ⟨by omega, λh => ?_⟩
    have := hr.2 h
    rw [h2 _ h] at this
    cases this
theorem wr_one (n : ByteArray) : wrV n = [n] ↔ nmOk n = false := by
  rw [nm_iff]
  constructor
  · intro h
    have := wr_el n (n.size + 2) 0 0 [] (fo_nr _) (λj _ h => by omega) (λp hp => by cases hp) n (by show n ∈ wrV n; rw [h]; exact List.mem_singleton.2 rfl)
    exact this
  · intro ⟨h1, h2⟩
    exact wr_run n h1 h2 _ 0 (fo_zl _) (by omega)
theorem kvF_snoc (l : List Fld) (f : Fld) : kvF (l ++ [f]) = putV (wideV f.1) (wideV f.2) (kvF l) := by
  unfold kvF
  rw [List.foldl_append] <;> rfl
theorem kv_oth {l : List Fld} (h : FSz l) (i : Nat) : KvOk (kvF (othV (l.take i))) i := by
  have h2 : (othV (l.take i)).length ≤ i := fo_lt (List.length_filter_le _ _) (List.length_take_le _ _)
  have := kvF_ok (othV (l.take i)) [] 0 kvOk_nil λf hf => h f (List.mem_of_mem_take (List.mem_filter.1 hf).1)
  rw [fo_za] at this
  exact ⟨fo_lt this.len h2, this.sz, this.nd⟩
theorem jobV_kv (l : List Fld) : jobV l = joQ (kvF l) := rfl
theorem rhear_nou {r : Req} {l : List Fld} {nm : ByteArray} (hm : (!bEq r.m sPost && !bEq r.m sGet) = false) (hl : flsV r = some l) (hn : nmV r l = some nm) (h1 : (l.all λf => okV f.1 && okV f.2) = false) : hearV r = .no 400 := by
  unfold hearV; rw [hm, fo_cf, hl]; dsimp only; rw [hn]; dsimp only; rw [h1] <;> rfl
theorem rhear_dat {r : Req} {l : List Fld} {nm : ByteArray} (hm : (!bEq r.m sPost && !bEq r.m sGet) = false) (hl : flsV r = some l) (hn : nmV r l = some nm) (h1 : (l.all λf => okV f.1 && okV f.2) = true) : hearV r = (match datV r l with | .inr _ => .no 400 | .inl none => .no 413 | .inl (some e) => .ok (cutA (tgV r) 63) nm e) := by
  unfold hearV; rw [hm, fo_cf, hl]; dsimp only; rw [hn]; dsimp only; rw [h1] <;> rfl
structure Rr1 where
  b1 : Nat
  b3 : Nat
  l : List Fld
  ro : Row
  e : Int
structure Rr1.ok (d : Rr1) (r : Req) : Prop where
  hm : (!bEq r.m sPost && !bEq r.m sGet) = false
  h : (d.e = 0 ∧ flsV r = some d.l ∧ IsRow 36 2 (fCs d.l) d.ro ∧ d.l.length ≤ 64) ∨ (d.e ≠ 0 ∧ flsV r = none)
structure RrS where
  b1 : Nat
  b3 : Nat
  b10 : Nat
  nm : ByteArray
  l : List Fld
  ro : Row
  i : Nat
  hb : Nat
  left : Int
structure RrS.ok (d : RrS) (r : Req) : Prop where
  hm : (!bEq r.m sPost && !bEq r.m sGet) = false
  hl : flsV r = some d.l
  hn : nmV r d.l = some d.nm
  hr : IsRow 36 2 (fCs d.l) d.ro
  hz : d.l.length ≤ 64
  hi : d.i ≤ d.l.length
  hv : ((d.l.take d.i).all λf => okV f.1 && okV f.2) = true
  h1 : 9999 ≤ d.left + d.i
  h2 : d.left ≤ 9999
def rrSt (r : Req) (F : Atom) (d : RrS) : List Atom := [F, .cells d.b1 (reqL r) 45, .cells d.b3 zEv 51, .cells d.b10 (evL d.nm eNul) 51, d.ro.A]
def rhearInv (x : RqX) (F : Atom) : Nat → Option Inv := fun
  | 0 => some { X := RrS, P := λd => d.ok x.r, mu := λd => d.l.length - d.i, lv := λd => [(1, .pointer (some ⟨d.b1, 0, none⟩)), (3, .pointer (some ⟨d.b3, 0, none⟩)), (6, .string (cutA (tgV x.r) 63)), (9, .slice d.ro.a d.ro.n d.ro.cap), (13, .pointer (some ⟨d.b10, 0, none⟩)), (17, .pointer (some ⟨d.hb, 0, none⟩)), (18, .int .i64 0), (20, .bool (decide ((othV (d.l.take d.i)).length > 0))), (21, .int .i64 d.i)], st := λd => rrSt x.r F d ++ [rhA d.hb d.left (kvF (othV (d.l.take d.i)))] }
  | _ => none
def rhearCut (x : RqX) (F : Atom) : Nat → Option Inv := fun
  | 3 => some { X := Hr0, P := λ_ => (!bEq x.r.m sPost && !bEq x.r.m sGet) = false, mu := λ_ => 0, lv := λd => [(1, .pointer (some ⟨d.b1, 0, none⟩)), (3, .pointer (some ⟨d.b3, 0, none⟩))], st := λd => [F, .cells d.b1 (reqL x.r) 45, .cells d.b3 zEv 51] }
  | 6 => some { X := Hr0, P := λ_ => (!bEq x.r.m sPost && !bEq x.r.m sGet) = false, mu := λ_ => 0, lv := λd => [(1, .pointer (some ⟨d.b1, 0, none⟩)), (3, .pointer (some ⟨d.b3, 0, none⟩)), (5, .string (tgV x.r))], st := λd => [F, .cells d.b1 (reqL x.r) 45, .cells d.b3 zEv 51] }
  | 12 => some { X := Rr1, P := λd => d.ok x.r, mu := λ_ => 0, lv := λd => [(1, .pointer (some ⟨d.b1, 0, none⟩)), (3, .pointer (some ⟨d.b3, 0, none⟩)), (6, .string (cutA (tgV x.r) 63)), (9, .slice d.ro.a d.ro.n d.ro.cap), (10, .int .i64 d.e)], st := λd => [F, .cells d.b1 (reqL x.r) 45, .cells d.b3 zEv 51, .emp, d.ro.A] }
  | 21 => some { X := RrS, P := λd => d.ok x.r ∧ d.i = 0, mu := λ_ => 0, lv := λd => [(1, .pointer (some ⟨d.b1, 0, none⟩)), (3, .pointer (some ⟨d.b3, 0, none⟩)), (6, .string (cutA (tgV x.r) 63)), (9, .slice d.ro.a d.ro.n d.ro.cap), (13, .pointer (some ⟨d.b10, 0, none⟩))], st := rrSt x.r F }
  | _ => none
def T161 (e0 : RqX) (e1 : Atom) (v0 v1 v2 : Value) (ss : St) := ∃ (z : Hr0), (q251 e0) = false ∧ (v0 = fo_vp (some ⟨z.b1, 0, none⟩) ∧ v1 = fo_vp (some ⟨z.b3, 0, none⟩) ∧ v2 = fo_vs (tgV e0.r) ∧ True) ∧ Ent ss (q100 e1 z e0)
abbrev q239 (P : Hr0) := fo_vp (some ⟨P.b1, 0, none⟩)
abbrev q240 (P : Hr0) := fo_vp (some ⟨P.b3, 0, none⟩)
def T162 := fo_C5 53 fprC q135 (λw0 w1 => (w1.e = 0 ∧ w1.y.of w0.s ∨ w1.e ≠ (0 : Int) ∧ fdV w0.s = none ∧ w1.y.r = nilRow))
def T163 := fo_C1 54 ifrC (λw0 => w0.r.ok)
def T164 (e0 : RqX) (e1 : Atom) (v0 v1 v2 v3 v4 : Value) (ss : St) := ∃ (z : Rr1), z.ok e0.r ∧ (v0 = fo_vp (some ⟨z.b1, 0, none⟩) ∧ v1 = fo_vp (some ⟨z.b3, 0, none⟩) ∧ v2 = fo_vs (cutA (tgV e0.r) 63) ∧ v3 = fo_vl z.ro.a z.ro.n z.ro.cap ∧ v4 = fo_vi z.e ∧ True) ∧ Ent ss [(0, e1), (1, fo_cl z.b1 (q0 e0) 45), (2, fo_cl z.b3 q4 51), (3, fo_em), (4, z.ro.A)]
def q162 (x : RqX) (F : Atom) (P : Hr0) (N : CuX2) (K : Fp2) := T164 x F (q239 P) (q240 P) (fo_vs (cutA N.s N.c)) (fo_vl K.y.r.a K.y.r.n K.y.r.cap) (fo_vi K.e) [(0, F), (1, fo_cl P.b1 (q0 x) 45), (2, fo_cl P.b3 q4 51), (4, K.y.r.A)]
abbrev q388 (F : Atom) (J : Rr1) (x : RqX) (H : Nat) := [(0, F), (1, fo_cl J.b1 (q0 x) 45), (2, fo_cl J.b3 q4 51), (3, fo_cl H (q6 x) 51), (4, J.ro.A)]
def q49 (J : Rr1) (x : RqX) (F : Atom) (H : Nat) (d : Row) := Same ⟨J.b3, 0, none⟩ J.b3 ∧ Same ⟨J.b3, 1, none⟩ J.b3 ∧ Same ⟨J.b3, 2, none⟩ J.b3 ∧ Same ⟨J.b3, 3, none⟩ J.b3 ∧ Same ⟨J.b3, 4, none⟩ J.b3 ∧ Same ⟨J.b3, 5, none⟩ J.b3 ∧ Same ⟨J.b3, 6, none⟩ J.b3 ∧ Same ⟨J.b3, 0, none⟩ J.b3 ∧ Same ⟨J.b3, 1, none⟩ J.b3 ∧ Same ⟨J.b3, 2, none⟩ J.b3 ∧ Same ⟨J.b3, 3, none⟩ J.b3 ∧ Same ⟨J.b3, 4, none⟩ J.b3 ∧ Same ⟨J.b3, 5, none⟩ J.b3 ∧ Same ⟨J.b3, 6, none⟩ J.b3 ∧ Done rhearC x F q38 [(0, F), (1, fo_cl J.b1 (q0 x) 45), (2, fo_cl J.b3 q1 51), (3, fo_cl H (q6 x) 51), (4, J.ro.A), (6, d.A)]
abbrev q307 (a : RrS) : Option Addr := some ⟨a.b1, 0, none⟩
abbrev q309 (a : RrS) : Option Addr := some ⟨a.b3, 0, none⟩
abbrev q291 (a : RrS) : Option Addr := some ⟨a.b10, 0, none⟩
def q99 (J : Rr1) (a : RrS) (x : RqX) (H : Nat) := fo_vp (some ⟨J.b1, 0, none⟩) = fo_vp (q307 a) ∧ fo_vp (some ⟨J.b3, 0, none⟩) = fo_vp (q309 a) ∧ fo_vs (cutA (tgV x.r) 63) = fo_vs (cutA (tgV x.r) 63) ∧ fo_vl J.ro.a J.ro.n J.ro.cap = fo_vl a.ro.a a.ro.n a.ro.cap ∧ fo_vp (q13 H) = fo_vp (q291 a) ∧ True
abbrev q15 (z : RrS) : List Value := [fo_vs z.nm, fo_vs sExt, fo_vs eNul, fo_vs eNul, fo_vs sTyp, fo_vs eNul, fo_vs eNul]
abbrev q326 (F : Atom) (a : RrS) (x : RqX) := [(0, F), (1, fo_cl a.b1 (q0 x) 45), (2, fo_cl a.b3 q4 51), (3, fo_cl a.b10 (q15 a) 51), (4, a.ro.A)]
abbrev q264 (z : RrS) : Option Addr := some ⟨z.hb, 0, none⟩
abbrev q224 (z : RrS) := decide ((othV (List.take z.i z.l)).length > 0)
abbrev q37 (e1 : Atom) (z : RrS) (e0 : RqX) := [(0, e1), (1, fo_cl z.b1 (q0 e0) 45), (2, fo_cl z.b3 q4 51), (3, fo_cl z.b10 (q15 z) 51), (4, z.ro.A), (5, fo_pr (Ex.rest (rhR (kvF (othV (List.take z.i z.l)))) (rhB z.hb z.left (kvF (othV (List.take z.i z.l))))))]
abbrev q184 (w : RrS) : List Value := [fo_vl w.ro.a w.ro.n w.ro.cap, fo_vi ↑w.i]
def T165 := fo_C1 59 rtC q383
def q30 (w : RrS) (x : RqX) (F : Atom) := fo_s5 w.b3 (fo_sm w.b3 5 ∧ fo_sm w.b3 6 ∧ fo_s5 w.b3 (fo_sm w.b3 5 ∧ fo_sm w.b3 6 ∧ Done rhearC x F q38 [(0, F), (1, fo_cl w.b1 (q0 x) 45), (2, fo_cl w.b3 q1 51), (3, fo_cl w.b10 (q15 w) 51), (4, w.ro.A), (5, fo_pr (Ex.rest (rhR (kvF (othV (List.take w.i w.l)))) (rhB w.hb w.left (kvF (othV (List.take w.i w.l))))))]))
def T166 := fo_C1 61 t2C q383
def T167 (e0 : RqX) (e1 : Atom) (v0 v1 v2 v3 v4 v5 v6 : Value) (ss : St) (mm : Nat) := ∃ (z : RrS), z.ok e0.r ∧ (v0 = fo_vp (q307 z) ∧ v1 = fo_vp (q309 z) ∧ fo_vs (cutA (tgV e0.r) 63) = fo_vs (cutA (tgV e0.r) 63) ∧ v2 = fo_vl z.ro.a z.ro.n z.ro.cap ∧ v3 = fo_vp (q291 z) ∧ v4 = fo_vp (q264 z) ∧ fo_vi 0 = fo_vi 0 ∧ v5 = fo_vb (q224 z) ∧ v6 = fo_vi ↑z.i ∧ True) ∧ Ent ss (q37 e1 z e0) ∧ z.l.length - z.i < mm
abbrev q95 (w : RrS) (b : TroX) : List Value := [fo_vs w.nm, fo_vs sExt, fo_vs eNul, fo_vs eNul, fo_vs sTyp, fo_vs eNul, fo_vs ((jsV (joQ b.l)).getD q34)]
abbrev q103 (w : RrS) (b : Tr) : List Value := [fo_vs w.nm, fo_vs sExt, fo_vs eNul, fo_vs eNul, fo_vs sTyp, fo_vs eNul, fo_vs ((jsV b.q).getD q34)]
def q55 (w : RrS) (x : RqX) (F : Atom) := true = true ∧ fo_s5 w.b10 (fo_sm w.b10 5 ∧ fo_sm w.b10 6 ∧ fo_s5 w.b3 (fo_sm w.b3 5 ∧ fo_sm w.b3 6 ∧ fo_s5 w.b3 (fo_sm w.b3 5 ∧ fo_sm w.b3 6 ∧ Done rhearC x F (fo_rt (tuple ⟨[fo_vs (cutA (tgV x.r) 63), agg ⟨q15 w⟩, fo_vi 200]⟩)) [(0, F), (1, fo_cl w.b1 (q0 x) 45), (2, fo_cl w.b3 (q15 w) 51), (3, fo_cl w.b10 (q15 w) 51), (4, w.ro.A), (5, fo_pr (Ex.rest (rhR (kvF (othV (List.take w.i w.l)))) (rhB w.hb w.left (kvF (othV (List.take w.i w.l))))))])))
theorem rhear_vc (x : RqX) (F : Atom) (hc : rhearC.cond x) (hr : rhearC.rdc x F) :
 ∀(T S : Nat), (fo_sm T 0 ∧ Br (!x.r.m.toList == q319.toList) (fo_sm T 0 ∧ Br (!x.r.m.toList == (ByteArray.mk #[71, 69, 84]).toList) (fo_s5 S (fo_sm S 5 ∧ fo_sm S 6 ∧ fo_s5 S (fo_sm S 5 ∧ fo_sm S 6 ∧ Done rhearC x F q312 [(0, F), (1, fo_cl T (q0 x) 45), (2, fo_cl S q1 51)]))) (q113 x F T S)) (q113 x F T S)) ∧ fo_vA λ(R : Hr0) _ => (q251 x) = false → fo_sm R.b1 1 ∧ fo_Bd ((x.r.t.size : Int) > 0) (((0 : Int) ≤ (0 : Int) ∧ 0 < (x.r.t.size : Int)) ∧ Br (byteAt x.r.t (0 : Int) == (47 : Int)) (((0 : Int) ≤ (1 : Int) ∧ 1 ≤ (x.r.t.size : Int) ∧ (x.r.t.size : Int) ≤ (x.r.t.size : Int)) ∧ T161 x F (q239 R) (q240 R) (fo_vs (x.r.t.extract (Int.toNat (1 : Int)) (x.r.t.size : Int).toNat)) (q100 F R x)) (T161 x F (q239 R) (q240 R) (fo_vs x.r.t) (q100 F R x))) (T161 x F (q239 R) (q240 R) (fo_vs x.r.t) (q100 F R x)) ∧ fo_vA λ(P : Hr0) _ => (q251 x) = false → T128 [fo_vs (tgV x.r), fo_vc 63] (λN M => T162 [fo_vs (cutB N.s N.c)] (λL K => Br (K.e == 0) (fo_s5 P.b1 (T163 (q373 x) (λg f => Br (frmV g.r) (fo_sm P.b1 4 ∧ T162 [fo_vs x.r.b] (λe d => T29 (opIn Tryz.f17 11 2) [fo_vl K.y.r.a K.y.r.n K.y.r.cap, fo_vl d.y.r.a d.y.r.n d.y.r.cap] [K.y.r.A] (fo_aR [(0, F), (1, fo_cl P.b1 (q0 x) 45), (2, fo_cl P.b3 q4 51), (4, K.y.r.A), (5, d.y.r.A)] [4]) (λc b => T164 x F (q239 P) (q240 P) (fo_vs (cutA N.s N.c)) (q332 b) (fo_vi d.e) [(0, F), (1, fo_cl P.b1 (q0 x) 45), (2, fo_cl P.b3 q4 51), (4, b.A), (5, d.y.r.A)]))) (q162 x F P N K)))) (q162 x F P N K) ∧ fo_vA λ(J : Rr1) _ => J.ok x.r → Br (J.e != 0) (fo_s5 J.b3 (fo_sm J.b3 5 ∧ fo_sm J.b3 6 ∧ fo_s5 J.b3 (fo_sm J.b3 5 ∧ fo_sm J.b3 6 ∧ Done rhearC x F q38 [(0, F), (1, fo_cl J.b1 (q0 x) 45), (2, fo_cl J.b3 q1 51), (3, fo_em), (4, J.ro.A)]))) (fo_sm J.b1 0 ∧ 5 + x.r.m.size ≤ 9223372036854775807 ∧ ∀(H : Nat), fo_s5 H (fo_sm H 5 ∧ fo_sm H 6 ∧ fo_C2 55 fdC (λG => IsSrc 2 (fCs G.l) G.a G.n ∧ G.l.length ≤ 1048576) (λG rr => Srcd rr G.a (fCs G.l)) [fo_vl J.ro.a J.ro.n J.ro.cap, fo_vs ⟨#[95, 115, 99, 120, 109, 108, 101, 118, 101, 110, 116, 110, 97, 109, 101]⟩] (fo_aR (q388 F J x H) []) (λG E => Br (fndV G.nm G.l).isSome (fo_k 56 wrdC ∧ true = true ∧ ∃ (e : StX), [fo_vs ((fndV G.nm G.l).getD q34)] = [fo_vs e.s] ∧ ([] : List Atom) = [] ∧ e.s.size ≤ 4096 ∧ True ∧ ∀ (d : Row), IsRow 9 1 (strs (wrV e.s)) d → Br ((d.n : Int) != 1) (q49 J x F H d) (QOpOk Tryz.prog (opIn Tryz.f17 18 5) (ixQ 1) ∧ ∃ (c : IxQX), (q335 d) = (q116 c) ∧ (0 ≤ c.n ∧ c.n < c.len) ∧ ∃ (b : ByteArray), Look d.A ⟨c.b, c.o + c.n.toNat * 1, none⟩ (fo_vs b) ∧ Br (!b.toList == ((fndV G.nm G.l).getD q34).toList) (q49 J x F H d) (Same ⟨H, 0, none⟩ H ∧ ∃ (a : RrS), (a.ok x.r ∧ a.i = 0) ∧ q99 J a x H ∧ Ent [(0, F), (1, fo_cl J.b1 (q0 x) 45), (2, fo_cl J.b3 q4 51), (3, fo_cl H (q74 G) 51), (4, J.ro.A), (6, d.A)] (q326 F a x)))) (∃ (a : RrS), (a.ok x.r ∧ a.i = 0) ∧ q99 J a x H ∧ Ent (q388 F J x H) (q326 F a x)) ∧ fo_vA λ(D : RrS) _ => (D.ok x.r ∧ D.i = 0) → fo_C0 57 rnwC [fo_vi 10000] (λB A => fo_C3 58 rplC (λz => 1 ≤ z.left ∧ z.left ≤ 10000) [fo_vp (q13 A), fo_vi (-1)] [fo_cl A q45 159] (λz y => (∃(a : RrS), a.ok x.r ∧ (fo_vp (q307 D) = fo_vp (q307 a) ∧ fo_vp (q309 D) = fo_vp (q309 a) ∧ fo_vs (cutA (tgV x.r) 63) = fo_vs (cutA (tgV x.r) 63) ∧ fo_vl D.ro.a D.ro.n D.ro.cap = fo_vl a.ro.a a.ro.n a.ro.cap ∧ fo_vp (q291 D) = fo_vp (q291 a) ∧ fo_vp (q13 A) = fo_vp (q264 a) ∧ fo_vi 0 = fo_vi 0 ∧ fo_vb false = fo_vb (q224 a) ∧ fo_vi 0 = fo_vi ↑a.i ∧ True) ∧ Ent [(0, F), (1, fo_cl D.b1 (q0 x) 45), (2, fo_cl D.b3 q4 51), (3, fo_cl D.b10 (q15 D) 51), (4, D.ro.A), (700, fo_pr (Ex.rest (rhR []) (rhB z.b (z.left - 1) [])))] (q37 F a x)) ∧ fo_vA λ(w : RrS) _ => w.ok x.r → fo_Bd ((w.i : Int) < (w.ro.n : Int)) (T30 (opIn Tryz.f17 27 2) (q184 w) (λu => T25 w.ro.A ⟨u.b, u.o + u.n.toNat * 2, none⟩ (λt => T165 [fo_vs t] (λs r => Br (!okV s.s) (q30 w x F) (T30 (opIn Tryz.f17 27 10) (q184 w) (λq => T25 w.ro.A ⟨q.b, q.o + q.n.toNat * 2 + 1, none⟩ (λp => T165 [fo_vs p] (λo n => Br (!okV o.s) (q30 w x F) (T30 (opIn Tryz.f17 29 2) (q184 w) (λm => T25 w.ro.A ⟨m.b, m.o + m.n.toNat * 2, none⟩ (λl => Br (q286 l) (T30 (opIn Tryz.f17 31 2) (q184 w) (λk => T25 w.ro.A ⟨k.b, k.o + k.n.toNat * 2, none⟩ (λj => T122 [fo_vs j] (λi h => T30 (opIn Tryz.f17 32 5) (q184 w) (λg => T25 w.ro.A ⟨g.b, g.o + g.n.toNat * 2 + 1, none⟩ (λf => T166 [fo_vs f] (λe d => fo_C3 60 rpuhC (λc => c.ok) [fo_vp (q264 w), fo_vi 0, fo_vs (wideV i.s), agg ⟨q130 e⟩] [fo_pr (Ex.rest (rhR (kvF (othV (List.take w.i w.l)))) (rhB w.hb w.left (kvF (othV (List.take w.i w.l)))))] (λc b => fo_rI ((w.i : Int) + 1) ∧ T167 x F (fo_vp (q307 w)) (fo_vp (q309 w)) (fo_vl w.ro.a w.ro.n w.ro.cap) (fo_vp (q291 w)) (fo_vp (q264 w)) (fo_vb true) (fo_vi ((w.i : Int) + 1)) [(0, F), (1, fo_cl w.b1 (q0 x) 45), (2, fo_cl w.b3 q4 51), (3, fo_cl w.b10 (q15 w) 51), (4, w.ro.A), (5, fo_pr (Ex.rest (rhR (putV c.k c.v c.l)) (rhB c.b (lfr c.k c.l c.left) (putV c.k c.v c.l))))] (w.l.length - w.i))))))))) (fo_rI ((w.i : Int) + 1) ∧ T167 x F (fo_vp (q307 w)) (fo_vp (q309 w)) (fo_vl w.ro.a w.ro.n w.ro.cap) (fo_vp (q291 w)) (fo_vp (q264 w)) (fo_vb (q224 w)) (fo_vi ((w.i : Int) + 1)) (q37 F w x) (w.l.length - w.i))))))))))))) (Br (q224 w) (fo_C0 63 roC [fo_vi 0] (λd c => fo_C3 62 tdroC (λb => List.length b.l ≤ 64 ∧ (∀(a : ByteArray × ByteArray), a ∈ b.l → a.fst.size ≤ 16384 ∧ a.snd.size ≤ 16384) ∧ (List.map (λ(a : ByteArray × ByteArray) => a.fst) b.l).Nodup) [fo_vp (q264 w), agg ⟨q14⟩] [fo_pr (Ex.rest (rhR (kvF (othV (List.take w.i w.l)))) (rhB w.hb w.left (kvF (othV (List.take w.i w.l)))))] (λb a => fo_sm w.b10 6 ∧ Br (!(jsV (joQ b.l)).isSome) (fo_s5 w.b3 (fo_sm w.b3 5 ∧ fo_sm w.b3 6 ∧ fo_s5 w.b3 (fo_sm w.b3 5 ∧ fo_sm w.b3 6 ∧ Done rhearC x F q145 [(0, F), (1, fo_cl w.b1 (q0 x) 45), (2, fo_cl w.b3 q1 51), (3, fo_cl w.b10 (q95 w b) 51), (4, w.ro.A), (5, fo_em)]))) (true = true ∧ fo_s5 w.b10 (fo_sm w.b10 5 ∧ fo_sm w.b10 6 ∧ fo_s5 w.b3 (fo_sm w.b3 5 ∧ fo_sm w.b3 6 ∧ fo_s5 w.b3 (fo_sm w.b3 5 ∧ fo_sm w.b3 6 ∧ Done rhearC x F (fo_rt (tuple ⟨[fo_vs (cutA (tgV x.r) 63), agg ⟨q95 w b⟩, fo_vi 200]⟩)) [(0, F), (1, fo_cl w.b1 (q0 x) 45), (2, fo_cl w.b3 (q95 w b) 51), (3, fo_cl w.b10 (q95 w b) 51), (4, w.ro.A), (5, fo_em)]))))))) (fo_sm w.b1 4 ∧ Br (!x.r.b.toList == q34.toList) (fo_s5 w.b1 (T163 (q373 x) (λh g => Br (!frmV h.r) (fo_sm w.b1 4 ∧ T165 [fo_vs x.r.b] (λf e => Br (!okV f.s) (q30 w x F) (fo_sm w.b1 4 ∧ T166 [fo_vs x.r.b] (λd c => fo_C2 62 tdrC (λb => b.good) (λb rr => b.Rd rr ∧ b.good) [fo_vp (q264 w), agg ⟨q130 d⟩] (fo_aR (q37 F w x) []) (λb a => fo_sm w.b10 6 ∧ Br (!(jsV b.q).isSome) (fo_s5 w.b3 (fo_sm w.b3 5 ∧ fo_sm w.b3 6 ∧ fo_s5 w.b3 (fo_sm w.b3 5 ∧ fo_sm w.b3 6 ∧ Done rhearC x F q145 [(0, F), (1, fo_cl w.b1 (q0 x) 45), (2, fo_cl w.b3 q1 51), (3, fo_cl w.b10 (q103 w b) 51), (4, w.ro.A), (5, fo_pr (Ex.rest (rhR (kvF (othV (List.take w.i w.l)))) (rhB w.hb w.left (kvF (othV (List.take w.i w.l))))))]))) (true = true ∧ fo_s5 w.b10 (fo_sm w.b10 5 ∧ fo_sm w.b10 6 ∧ fo_s5 w.b3 (fo_sm w.b3 5 ∧ fo_sm w.b3 6 ∧ fo_s5 w.b3 (fo_sm w.b3 5 ∧ fo_sm w.b3 6 ∧ Done rhearC x F (fo_rt (tuple ⟨[fo_vs (cutA (tgV x.r) 63), agg ⟨q103 w b⟩, fo_vi 200]⟩)) [(0, F), (1, fo_cl w.b1 (q0 x) 45), (2, fo_cl w.b3 (q103 w b) 51), (3, fo_cl w.b10 (q103 w b) 51), (4, w.ro.A), (5, fo_pr (Ex.rest (rhR (kvF (othV (List.take w.i w.l)))) (rhB w.hb w.left (kvF (othV (List.take w.i w.l))))))]))))))))) (q55 w x F)))) (q55 w x F)))))))))) := by
  delta q319 q1 q312 q0 q251 q4 q100 T84 q13 q263 q113 T161 q239 q240 T128 q135 T162 T163 q373 q258 q247 q114 T29 T164 q332 q162 q38 q6 q388 q34 q49 q335 q116 q307 q309 q291 q99 q74 q15 q326 q45 q264 q224 q37 T30 q184 T25 q383 T165 q30 q286 T122 T166 q130 T167 q14 q145 q95 q103 q55 fo_aR fo_sm fo_rI fo_s5 fo_C0 fo_C1 fo_C2 fo_C3 fo_C5 fo_O4 fo_vi fo_vc fo_vs fo_vb fo_vp fo_vl fo_cl fo_pr fo_em fo_Bd fo_rt fo_vA
  obtain ⟨r⟩ := x
  obtain ⟨hc, hbs⟩ := hc
  have hc : r.ok := hc
  have hbs : r.b.size ≤ 16384 := hbs
  dsimp only
  have no : ∀ (S : St) (s : Nat), hearV r = .no s → Ent S (ofL [F]) → Done rhearC ⟨r⟩ F (returned (tuple #[.string ⟨#[]⟩, .agg #[.string ⟨#[]⟩, .string ⟨#[]⟩, .string ⟨#[]⟩, .string ⟨#[]⟩, .string ⟨#[]⟩, .string ⟨#[]⟩, .string ⟨#[]⟩], .int .i64 s])) S := λS s h1 h2 => ⟨(), fo_tv, by show _ = returned _; dsimp only; rw [h1] <;> rfl, h2⟩
  have yes : ∀ (S : St) (p n d : ByteArray), hearV r = .ok p n d → Ent S (ofL [F]) → Done rhearC ⟨r⟩ F (returned (tuple #[.string p, .agg #[.string n, .string sExt, .string eNul, .string eNul, .string sTyp, .string eNul, .string d], .int .i64 200])) S := λS p n d h1 h2 => ⟨(), fo_tv, by show _ = returned _; dsimp only; rw [h1] <;> rfl, h2⟩
  intro b1 b3
  refine ⟨⟨⟨rfl, rfl⟩, br_intro (λq1 => ⟨⟨rfl, rfl⟩, br_intro (λq2 => ?_) (λq2 => ⟨⟨b1, b3⟩, ?_, ⟨rfl, rfl, fo_tv⟩, Ent.pick [0, 1, 2] rfl rfl⟩)⟩) (λq1 => ⟨⟨b1, b3⟩, ?_, ⟨rfl, rfl, fo_tv⟩, Ent.pick [0, 1, 2] rfl rfl⟩)⟩, ?_⟩
  · have q1 : (!bEq r.m sPost) = true := q1
    have q2 : (!bEq r.m sGet) = true := q2
    repeat refine ⟨⟨rfl, rfl⟩, ?_⟩
    exact no _ 405 (hear_405 (by rw [q1, q2] <;> rfl)) (Ent.pick [0] rfl rfl)
  · have q2 : (!bEq r.m sGet) = false := q2
    show (!bEq r.m sPost && !bEq r.m sGet) = false
    rw [q2, fo_baf]
  · have q1 : (!bEq r.m sPost) = false := q1
    show (!bEq r.m sPost && !bEq r.m sGet) = false
    rw [q1, fo_fba]
  rintro ⟨b1, b3⟩ js hm
  dsimp only at hm ⊢
  have htg : tgV r = bif decide (r.t.size > 0) && bt r.t 0 == 47 then r.t.extract 1 r.t.size else r.t := rfl
  have eb : byteAt r.t 0 = (bt r.t 0 : Int) := by rw [byteAt_bt] <;> rfl
  rw [eb]
  refine ⟨⟨rfl, rfl⟩, br_decide (λq => ⟨⟨by omega, q⟩, br_intro (λq2 => ⟨⟨by omega, by omega, by omega⟩, ⟨b1, b3⟩, hm, ⟨rfl, rfl, ?_, fo_tv⟩, Ent.pick [0, 1, 2] rfl rfl⟩) (λq2 => ⟨⟨b1, b3⟩, hm, ⟨rfl, rfl, ?_, fo_tv⟩, Ent.pick [0, 1, 2] rfl rfl⟩)⟩) (λq => ⟨⟨b1, b3⟩, hm, ⟨rfl, rfl, ?_, fo_tv⟩, Ent.pick [0, 1, 2] rfl rfl⟩), ?_⟩
  · rw [htg, fo_dt (show r.t.size > 0 by omega), eqN 47 q2] <;> rfl
  · rw [htg, eqN 47 q2, fo_baf] <;> rfl
  · rw [htg, fo_df (show ¬ r.t.size > 0 by omega)] <;> rfl
  clear b1 b3
  rintro ⟨b1, b3⟩ js -
  dsimp only
  have htz : (tgV r).size ≤ r.t.size := by
    rw [htg]
    cases (decide (r.t.size > 0) && bt r.t 0 == 47)
    · exact fo_nr _
    · rw [fo_ct, fo_se]; omega
  have h1m := hc.2.1
  have hcb : (cutB (tgV r) 63).size ≤ 1048576 := by unfold cutB; rw [fo_se]; omega
  have hfl : flsV r = (match fdV (cutB (tgV r) 63) with
    | none => none
    | some l => bif frmV r then (match fdV r.b with | some m => some (l ++ m) | none => none) else some l) := rfl
  refine ⟨cu2_ok, rfl, ⟨tgV r, 63⟩, rfl, rfl, by dsimp only; omega, fo_tv, λ_ _ => ⟨fpr_ok, rfl, ⟨cutB (tgV r) 63⟩, rfl, rfl, hcb, fo_tv, ?_⟩⟩
  rintro ⟨⟨l, ro⟩, e⟩ hy
  dsimp only at hy ⊢
  refine ⟨?_, ?_⟩
  · rcases hy with ⟨rfl, k1, k2⟩ | ⟨k0, k1, _⟩
    rotate_left
    · refine br_intro (λq => absurd (by simpa using q) k0) (λ_ => ⟨⟨b1, b3, l, ro, e⟩, ⟨hm, .inr ⟨k0, by rw [hfl, k1]⟩⟩, ⟨rfl, rfl, rfl, rfl, rfl, fo_tv⟩, Ent.pick [0, 1, 2, 3, 4] rfl rfl⟩)
    dsimp only at k1 k2
    have hl1 := fdV_len k1
    refine br_intro (λ_ => ?_) (λq => by cases q)
    repeat refine ⟨⟨rfl, rfl⟩, ?_⟩
    refine ⟨ifr_ok, rfl, ⟨r⟩, rfl, rfl, hc, fo_tv, λ_ _ => br_intro (λq => ?_) (λq => ⟨⟨b1, b3, l, ro, 0⟩, ⟨hm, .inl ⟨rfl, ?_, k2, by dsimp only; omega⟩⟩, ⟨rfl, rfl, rfl, rfl, rfl, fo_tv⟩, Ent.pick [0, 1, 2, 3, 4] rfl rfl⟩)⟩
    rotate_left
    · dsimp only at q ⊢
      rw [hfl, k1]; dsimp only; rw [q] <;> rfl
    have q : frmV r = true := q
    refine ⟨⟨rfl, rfl⟩, fpr_ok, rfl, ⟨r.b⟩, rfl, rfl, by dsimp only; omega, fo_tv, ?_⟩
    rintro ⟨⟨m, ro2⟩, e2⟩ hy2
    dsimp only at hy2 ⊢
    have n1 := k2.len
    rw [fCs_length] at n1
    rcases hy2 with ⟨rfl, g1, g2⟩ | ⟨g0, g1, g2⟩
    · dsimp only at g1 g2
      have hl2 := fdV_len g1
      have n2 := g2.len
      rw [fCs_length] at n2
      refine ⟨append_ok (P := Tryz.prog) 2 32 rfl rfl rfl rfl rfl rfl rfl (by decide), rfl, ⟨ro, fCs l, ro2.a, ro2.n, ro2.cap, fCs m⟩, rfl, rfl, ⟨k2, (fCs_length m).trans n2, λ_ h => fCs_one h, by dsimp only; omega, by dsimp only; omega, λh => g2.none' h⟩, λa ha => Seg.rest (j := 5) (by simp) (g2.srcd a ha), ?_⟩
      rintro y ⟨y1, -, -⟩
      rw [← fCs_app] at y1
      exact ⟨⟨b1, b3, l ++ m, y, 0⟩, ⟨hm, .inl ⟨rfl, by dsimp only; rw [hfl, k1]; dsimp only; rw [q, g1] <;> rfl, y1, by dsimp only; rw [fo_la]; omega⟩⟩, ⟨rfl, rfl, rfl, rfl, rfl, fo_tv⟩, Ent.pick [0, 1, 2, 3, 4] rfl rfl⟩
    · subst g2
      refine ⟨append_ok (P := Tryz.prog) 2 32 rfl rfl rfl rfl rfl rfl rfl (by decide), rfl, ⟨ro, fCs l, none, 0, 0, []⟩, rfl, rfl, ⟨k2, rfl, (λ_ h => by cases h), by dsimp only; omega, by dsimp only; omega, λ_ => ⟨rfl, rfl⟩⟩, (λa ha => by cases ha), ?_⟩
      rintro y -
      exact ⟨⟨b1, b3, l, y, e2⟩, ⟨hm, .inr ⟨g0, by rw [hfl, k1]; dsimp only; rw [q, g1] <;> rfl⟩⟩, ⟨rfl, rfl, rfl, rfl, rfl, fo_tv⟩, Ent.pick [0, 1, 2, 3, 4] rfl rfl⟩
  clear hy l ro e b1 b3
  rintro ⟨b1, b3, l, ro, e⟩ js ⟨-, hy⟩
  dsimp only at hy ⊢
  rcases hy with ⟨rfl, h1, h2, h3⟩ | ⟨k0, h1⟩
  rotate_left
  · refine br_intro (λ_ => ?_) (λq => absurd (by simpa using q) k0)
    repeat refine ⟨⟨rfl, rfl⟩, ?_⟩
    exact no _ 400 (hear_nol hm h1) (Ent.pick [0] rfl rfl)
  refine br_intro (λq => by cases q) (λ_ => ⟨⟨rfl, rfl⟩, by have := hc.1; omega, λb10 => ?_⟩)
  have hnm : nmV r l = (match fndV sName l with
    | some n => bif nmOk n then none else some n
    | none => some (sHttp ++ r.m)) := rfl
  repeat refine ⟨⟨rfl, rfl⟩, ?_⟩
  refine ⟨fnr_ok, rfl, ⟨ro.a, ro.n, ro.cap, l, sName⟩, rfl, rfl, ⟨h2.src, by dsimp only; omega⟩, row_srcd 4 (by simp) rfl h2, λ_ _ => ⟨?_, ?_⟩⟩
  · dsimp only
    revert hnm
    have hmem := @fndV_mem sName
    generalize hf : fndV sName l = o
    intro hnm
    cases o with
    | none =>
      exact br_intro (λq => by cases q) (λ_ => ⟨⟨b1, b3, b10, sHttp ++ r.m, l, ro, 0, 0, 9999⟩, ⟨⟨hm, h1, hnm, h2, h3, fo_zl _, rfl, by dsimp only; omega, by dsimp only; omega⟩, rfl⟩, ⟨rfl, rfl, rfl, rfl, rfl, fo_tv⟩, Ent.pick [0, 1, 2, 3, 4] rfl rfl⟩)
    | some n =>
      have hnz : n.size ≤ 4096 := by
        obtain ⟨f, g1, g2⟩ := hmem hf
        rw [← g2]
        exact (flsV_size h1 f g1).2
      dsimp only at hnm
      refine br_intro (λ_ => ⟨wrd_ok, rfl, ⟨n⟩, rfl, rfl, hnz, fo_tv, λy hy => ?_⟩) (λq => by cases q)
      have hy : IsRow 9 1 (strs (wrV n)) y := hy
      have hyn := hy.len
      rw [strs_length] at hyn
      have bad : ¬ wrV n = [n] → nmV r l = none := λh => by
        cases hk : nmOk n with
        | false => exact absurd ((wr_one n).2 hk) h
        | true => rw [hnm, hk] <;> rfl
      refine br_intro (λq => ?_) (λq => ?_)
      · have q : ((y.n : Int) != 1) = true := q
        have q := bne_iff_ne.1 q
        repeat refine ⟨⟨rfl, rfl⟩, ?_⟩
        exact no _ 400 (hear_non hm h1 (bad λh => by rw [h] at hyn; simp at hyn; omega)) (Ent.pick [0] rfl rfl)
      · have q : ((y.n : Int) != 1) = false := q
        have q : (y.n : Int) = 1 := by simpa using q
        have hw1 : (wrV n).length = 1 := by omega
        obtain ⟨w, hw⟩ : ∃ w, wrV n = [w] := List.length_eq_one_iff.1 hw1
        rw [hw] at hy
        obtain ⟨c, hya⟩ := hy.at0 (by omega)
        have hsrd := hy.srcd
        rw [hya] at hsrd
        have hlk : Look y.A ⟨c, 0, none⟩ (.string w) := Srcd.look hsrd (show (strs [w])[0]? = some (.string w) from rfl)
        refine ⟨ixq_ok 1 rfl rfl rfl rfl, ⟨c, 0, y.n, y.cap, 0⟩, by rw [hya], ⟨fo_ir _, by dsimp only; omega⟩, w, hlk, br_intro (λq2 => ?_) (λq2 => ?_)⟩
        · have q2 : (!bEq w n) = true := q2
          rw [Bool.not_eq_true'] at q2
          repeat refine ⟨⟨rfl, rfl⟩, ?_⟩
          refine no _ 400 (hear_non hm h1 (bad λh => ?_)) (Ent.pick [0] rfl rfl)
          rw [hw] at h
          cases h
          rw [(bEq_eq n n).2 rfl] at q2
          cases q2
        · have q2 : (!bEq w n) = false := q2
          rw [Bool.not_eq_false'] at q2
          have e := (bEq_eq w n).1 q2
          subst e
          refine ⟨⟨rfl, rfl⟩, ⟨b1, b3, b10, w, l, ro, 0, 0, 9999⟩, ⟨⟨hm, h1, ?_, h2, h3, fo_zl _, rfl, by dsimp only; omega, by dsimp only; omega⟩, rfl⟩, ⟨rfl, rfl, rfl, rfl, rfl, fo_tv⟩, Ent.pick [0, 1, 2, 3, 4] rfl rfl⟩
          show nmV r l = some w
          rw [hnm, (wr_one w).1 hw] <;> rfl
  clear h1 h2 h3 hnm b1 b3 b10 l ro
  rintro ⟨b1, b3, b10, nm, l, ro, i, hb, left⟩ js ⟨⟨-, hl, hn, h2, h3, hi, hv, k1, k2⟩, hi0⟩
  dsimp only at hl hn h2 h3 hi hv k1 k2 hi0 ⊢
  subst hi0
  refine ⟨rnw_ok, rfl, (), rfl, rfl, fo_tv, fo_tv, λhb _ => ⟨rpl_ok, rfl, ⟨hb, 10000⟩, rfl, rfl, ⟨by dsimp only; omega, by dsimp only; omega⟩, fo_tv, λ_ _ => ⟨⟨⟨b1, b3, b10, nm, l, ro, 0, hb, 9999⟩, ⟨hm, hl, hn, h2, h3, hi, hv, by dsimp only; omega, by dsimp only; omega⟩, ⟨rfl, rfl, rfl, rfl, rfl, rfl, rfl, rfl, rfl, fo_tv⟩, Ent.pick [0, 1, 2, 3, 4, 700] rfl rfl⟩, ?_⟩⟩⟩
  clear hl hn h2 h3 hi hv k1 k2 hb left nm l ro b1 b3 b10
  rintro ⟨b1, b3, b10, nm, l, ro, i, hb, left⟩ js ⟨-, hl, hn, h2, h3, hi, hv, k1, k2⟩
  dsimp only at hl hn h2 h3 hi hv k1 k2 ⊢
  have hnr := h2.len
  rw [fCs_length] at hnr
  have hsz := flsV_size hl
  have hkv := kv_oth hsz i
  have hkl := hkv.len
  refine br_decide (λh => ?_) (λh => ?_)
  · have hlt : i < l.length := by omega
    obtain ⟨c, o, ha⟩ := h2.src.some (by omega)
    obtain ⟨q, hq⟩ : ∃ q, l[i]? = some q := ⟨l[i], fo_ge hlt⟩
    obtain ⟨g1, g2⟩ := fCs_get hq
    have hz := hsz q (fo_mg hq)
    have ht := oth_take hq
    have hbad := all_at hq
    have hgood := all_take hq hv
    obtain ⟨q1, q2⟩ := q
    dsimp only at hz ht hbad hgood
    have hsrd := h2.srcd
    rw [ha] at hsrd
    have lk1 : Look ro.A ⟨c, o + ((i : Nat) : Int).toNat * 2, none⟩ (.string q1) := by
      have := Srcd.look hsrd g1
      rw [fo_tn, Nat.mul_comm]
      exact this
    have lk2 : Look ro.A ⟨c, o + ((i : Nat) : Int).toNat * 2 + 1, none⟩ (.string q2) := by
      have := Srcd.look hsrd g2
      rw [fo_tn, Nat.mul_comm i 2, Nat.add_assoc]
      exact this
    have w1 := wd_size q1
    have w2 := wd_size q2
    have ix : [slice ro.a ro.n ro.cap, int .i64 (i : Int)] = [slice (some ⟨c, o, none⟩) ro.n ro.cap, int .i64 (i : Int)] := by rw [ha]
    refine ⟨ixq_ok 2 rfl rfl rfl rfl, ⟨c, o, ro.n, ro.cap, i⟩, ix, ⟨by dsimp only; omega, h⟩, q1, lk1, rt_ok, rfl, ⟨q1⟩, rfl, rfl, by dsimp only; omega, fo_tv, λ_ _ => br_intro (λe => ?_) (λe => ⟨ixq_ok 2 rfl rfl rfl rfl, ⟨c, o, ro.n, ro.cap, i⟩, ix, ⟨by dsimp only; omega, h⟩, q2, lk2, rt_ok, rfl, ⟨q2⟩, rfl, rfl, by dsimp only; omega, fo_tv, λ_ _ => br_intro (λe2 => ?_) (λe2 => ⟨ixq_ok 2 rfl rfl rfl rfl, ⟨c, o, ro.n, ro.cap, i⟩, ix, ⟨by dsimp only; omega, h⟩, q1, lk1, br_intro (λe3 => ⟨ixq_ok 2 rfl rfl rfl rfl, ⟨c, o, ro.n, ro.cap, i⟩, ix, ⟨by dsimp only; omega, h⟩, q1, lk1, wdr_ok, rfl, ⟨q1⟩, rfl, rfl, by dsimp only; omega, fo_tv, λ_ _ => ⟨ixq_ok 2 rfl rfl rfl rfl, ⟨c, o, ro.n, ro.cap, i⟩, ix, ⟨by dsimp only; omega, h⟩, q2, lk2, t2_ok, rfl, ⟨q2⟩, rfl, rfl, by dsimp only; omega, fo_tv, λ_ _ => ⟨rpuh_ok, rfl, ⟨hb, left, kvF (othV (l.take i)), wideV q1, wideV q2⟩, rfl, rfl, ⟨by dsimp only; omega, by dsimp only; omega, by dsimp only; omega, w2.2, by dsimp only; omega⟩, fo_tv, λ_ _ => ?_⟩⟩⟩) (λe3 => ?_)⟩)⟩)⟩
    · have e : (!okV q1) = true := e
      repeat refine ⟨⟨rfl, rfl⟩, ?_⟩
      refine no _ 400 (rhear_nou hm hl hn (hbad ?_)) (Ent.pick [0] rfl rfl)
      rw [Bool.not_eq_true'] at e
      rw [e] <;> rfl
    · have e2 : (!okV q2) = true := e2
      repeat refine ⟨⟨rfl, rfl⟩, ?_⟩
      refine no _ 400 (rhear_nou hm hl hn (hbad ?_)) (Ent.pick [0] rfl rfl)
      rw [Bool.not_eq_true'] at e2
      rw [e2, fo_baf]
    · have e : (!okV q1) = false := e
      have e2 : (!okV q2) = false := e2
      have e3 : (!bEq q1 sName) = true := e3
      rw [Bool.not_eq_false'] at e e2
      rw [Bool.not_eq_true'] at e3
      rw [e3, fo_cf] at ht
      have hkk : kvF (othV (l.take (i + 1))) = putV (wideV q1) (wideV q2) (kvF (othV (l.take i))) := by rw [ht, kvF_snoc]
      refine ⟨⟨by omega, by omega⟩, ⟨b1, b3, b10, nm, l, ro, i + 1, hb, lfr (wideV q1) (kvF (othV (l.take i))) left⟩, ⟨hm, hl, hn, h2, h3, hlt, hgood (by rw [e, e2] <;> rfl), ?_, ?_⟩, ⟨rfl, rfl, rfl, rfl, rfl, rfl, rfl, ?_, rfl, fo_tv⟩, Ent.pick [0, 1, 2, 3, 4, 5] rfl ?_, by dsimp only; omega⟩
      · dsimp only; unfold lfr
        cases (pixV (wideV q1) (kvF (othV (l.take i)))).isSome <;> simp only [fo_ct, fo_cf] <;> omega
      · dsimp only; unfold lfr
        cases (pixV (wideV q1) (kvF (othV (l.take i)))).isSome <;> simp only [fo_ct, fo_cf] <;> omega
      · dsimp only
        rw [ht, fo_la, fo_dt (show (othV (l.take i)).length + [(q1, q2)].length > 0 by simp)]
      · dsimp only
        rw [hkk] <;> rfl
    · have e : (!okV q1) = false := e
      have e2 : (!okV q2) = false := e2
      have e3 : (!bEq q1 sName) = false := e3
      rw [Bool.not_eq_false'] at e e2 e3
      rw [e3, fo_ct, fo_an] at ht
      refine ⟨⟨by omega, by omega⟩, ⟨b1, b3, b10, nm, l, ro, i + 1, hb, left⟩, ⟨hm, hl, hn, h2, h3, hlt, hgood (by rw [e, e2] <;> rfl), by dsimp only; omega, k2⟩, ⟨rfl, rfl, rfl, rfl, rfl, rfl, rfl, ?_, rfl, fo_tv⟩, Ent.pick [0, 1, 2, 3, 4, 5] rfl ?_, by dsimp only; omega⟩
      · dsimp only; rw [ht]
      · dsimp only; rw [ht] <;> rfl
  · have hi2 : i = l.length := by omega
    rw [hi2, List.take_length] at hv hkv ⊢
    have hd := rhear_dat hm hl hn hv
    have hdat : datV r l = (bif decide ((othV l).length > 0) then .inl (jsV (jobV (othV l)))
      else bif decide (r.b.size > 0) && !frmV r then (bif okV r.b then .inl (jsV (quV (wideV r.b))) else .inr ())
      else .inl (some ⟨#[]⟩)) := rfl
    refine br_intro (λh => ?_) (λh => ?_)
    · have h : decide ((othV l).length > 0) = true := h
      rw [h, fo_ct, jobV_kv] at hdat
      rw [hdat] at hd
      refine ⟨ro_ok, rfl, (), rfl, rfl, fo_tv, fo_tv, λ_ _ => ⟨tdro_ok, rfl, ⟨hb, left, kvF (othV l)⟩, rfl, rfl, ⟨fo_lt hkv.len h3, λp hp => by have := hkv.sz p hp; omega, hkv.nd⟩, fo_tv, λ_ _ => ⟨⟨rfl, rfl⟩, ?_⟩⟩⟩
      dsimp only
      revert hd
      generalize jsV (joQ (kvF (othV l))) = v
      intro hd
      cases v with
      | none =>
        refine br_intro (λ_ => ?_) (λq => by cases q)
        repeat refine ⟨⟨rfl, rfl⟩, ?_⟩
        exact no _ 413 hd (Ent.pick [0] rfl rfl)
      | some v =>
        refine br_intro (λq => by cases q) (λ_ => ⟨rfl, ?_⟩)
        repeat refine ⟨⟨rfl, rfl⟩, ?_⟩
        exact yes _ _ _ _ hd (Ent.pick [0] rfl rfl)
    · have h : decide ((othV l).length > 0) = false := h
      rw [h, fo_cf] at hdat
      have hbz : ∀ v, (!(r.b.toList == (ByteArray.mk #[]).toList)) = v → decide (r.b.size > 0) = v := λv q => by
        rw [str_e0] at q
        rw [← q, Bool.eq_iff_iff, decide_eq_true_iff, Bool.not_eq_true', fo_bf]; omega
      have emp : datV r l = .inl (some ⟨#[]⟩) → hearV r = .ok (cutA (tgV r) 63) nm eNul := λq => by rw [hd, q]
      have w1 := wd_size r.b
      refine ⟨⟨rfl, rfl⟩, br_intro (λq1 => ?_) (λq1 => ?_)⟩
      · have q1 := hbz true q1
        repeat refine ⟨⟨rfl, rfl⟩, ?_⟩
        refine ⟨ifr_ok, rfl, ⟨r⟩, rfl, rfl, hc, fo_tv, λ_ _ => br_intro (λq2 => ⟨⟨rfl, rfl⟩, rt_ok, rfl, ⟨r.b⟩, rfl, rfl, by dsimp only; omega, fo_tv, λ_ _ => br_intro (λq3 => ?_) (λq3 => ⟨⟨rfl, rfl⟩, t2_ok, rfl, ⟨r.b⟩, rfl, rfl, by dsimp only; omega, fo_tv, λ_ _ => ?_⟩)⟩) (λq2 => ?_)⟩
        · have q2 : (!frmV r) = true := q2
          have q3 : (!okV r.b) = true := q3
          rw [Bool.not_eq_true'] at q3
          rw [q1, q2, q3] at hdat
          repeat refine ⟨⟨rfl, rfl⟩, ?_⟩
          exact no _ 400 (by rw [hd, hdat] <;> rfl) (Ent.pick [0] rfl rfl)
        · have q2 : (!frmV r) = true := q2
          have q3 : (!okV r.b) = false := q3
          rw [Bool.not_eq_false'] at q3
          rw [q1, q2, q3] at hdat
          have hdat : datV r l = .inl (jsV (quV (wideV r.b))) := hdat
          rw [hdat] at hd
          have hg := Tr.good.tx hb (wideV r.b) (by omega)
          refine ⟨tdr_ok, rfl, ⟨4, wideV r.b, quV (wideV r.b), hb, λ_ => True⟩, rfl, rfl, hg, ⟨fo_tv, hg⟩, λ_ _ => ⟨⟨rfl, rfl⟩, ?_⟩⟩
          dsimp only
          revert hd
          generalize jsV (quV (wideV r.b)) = v
          intro hd
          cases v with
          | none =>
            refine br_intro (λ_ => ?_) (λq => by cases q)
            repeat refine ⟨⟨rfl, rfl⟩, ?_⟩
            exact no _ 413 hd (Ent.pick [0] rfl rfl)
          | some v =>
            refine br_intro (λq => by cases q) (λ_ => ⟨rfl, ?_⟩)
            repeat refine ⟨⟨rfl, rfl⟩, ?_⟩
            exact yes _ _ _ _ hd (Ent.pick [0] rfl rfl)
        · have q2 : (!frmV r) = false := q2
          rw [q2, fo_baf] at hdat
          refine ⟨rfl, ?_⟩
          repeat refine ⟨⟨rfl, rfl⟩, ?_⟩
          exact yes _ _ _ _ (emp hdat) (Ent.pick [0] rfl rfl)
      · have q1 := hbz false q1
        rw [q1, fo_fba] at hdat
        refine ⟨rfl, ?_⟩
        repeat refine ⟨⟨rfl, rfl⟩, ?_⟩
        exact yes _ _ _ _ (emp hdat) (Ent.pick [0] rfl rfl)
theorem rhear_ok : fo_k 17 rhearC := fo 193 Tryz.func17 (λ_ _ => [(0, 0, .n 1), (0, 2, .n 2), (1, 1, .q [.aq 1]), (1, 5, .q [.aq 1]), (2, 2, .w (at7 2)), (3, 1, .q [.aq 1]), (6, 1, .c cuC2 [] []), (7, 1, .c fprC [] [4]), (8, 3, .q (at5 1)), (8, 4, .c ifrC [] []), (9, 1, .q [.aq 1]), (9, 2, .c fprC [] [5]), (11, 2, .o (apC 36 2 32) [4] [4]), (13, 2, .w (at7 2)), (14, 1, .q [.aq 1]), (14, 4, .n 3), (14, 5, .w (at7 3)), (15, 1, .c fdC [] []), (17, 1, .c wrdC [] [6]), (18, 5, .qo (ixQ 1)), (18, 6, .q [.ex 6 .str]), (19, 2, .w (at7 2)), (20, 2, .w [.aq 3]), (21, 0, .c rnwC [] [700]), (22, 1, .c rplC [700] [700]), (27, 2, .qo (ixQ 2)), (27, 4, .q [.ex 4 .str]), (27, 5, .c rtC [] []), (27, 10, .qo (ixQ 2)), (27, 12, .q [.ex 4 .str]), (27, 13, .c rtC [] []), (28, 2, .w (at7 2)), (29, 2, .qo (ixQ 2)), (29, 4, .q [.ex 4 .str]), (31, 2, .qo (ixQ 2)), (31, 4, .q [.ex 4 .str]), (31, 5, .c wdrC [] []), (32, 5, .qo (ixQ 2)), (32, 7, .q [.ex 4 .str]), (32, 8, .c t2C [] []), (32, 9, .c rpuhC [5] [5]), (35, 2, .c roC [] []), (35, 3, .c tdroC [5] []), (35, 8, .w [.aq 3]), (36, 1, .q [.aq 1]), (36, 4, .q (at5 1)), (36, 5, .c ifrC [] []), (37, 1, .q [.aq 1]), (37, 2, .c rtC [] []), (38, 2, .w (at7 2)), (39, 2, .q [.aq 1]), (39, 3, .c t2C [] []), (39, 4, .c tdrC [] []), (39, 9, .w [.aq 3]), (41, 2, .w (at7 2)), (42, 1, .q (at7 3)), (42, 3, .w (at7 2))]) [] rhearInv rhearCut fo_o [LH.aq 2, LH.aq 2, LH.aq 2, LH.aq 2, LH.aq 2, LH.aq 2, LH.aq 2] rhear_vc
end
section
open Go
set_option maxHeartbeats 1000000
abbrev hrG (a : List Value) (v : Value) : Con where
  X := Unit
  Y := Unit
  args _ := a
  pre _ := []
  cond _ := True
  rdc _ F := Gl F
  rel _ _ := True
  val _ _ := .returned v
  post _ _ := []
  rmono _ _ _ hs h := h.sub hs
def hq1 : Req := ⟨sPost, ⟨#[47, 115, 48]⟩, ⟨#[]⟩, sForm, ⟨#[95, 115, 99, 120, 109, 108, 101, 118, 101, 110, 116, 110, 97, 109, 101, 61, 103, 111, 38, 97, 61, 49]⟩⟩
def hq2 : Req := ⟨⟨#[80, 85, 84]⟩, ⟨#[47, 115, 48]⟩, ⟨#[]⟩, ⟨#[]⟩, ⟨#[]⟩⟩
abbrev hg1 : Con := hrG [.agg #[.string sPost, .string ⟨#[47, 115, 48]⟩, .string ⟨#[]⟩, .string sForm, .string hq1.b]] (.tuple #[.string ⟨#[115, 48]⟩, .agg #[.string ⟨#[103, 111]⟩, .string sExt, .string ⟨#[]⟩, .string ⟨#[]⟩, .string sTyp, .string ⟨#[]⟩, .string ⟨#[123, 34, 97, 34, 58, 34, 49, 34, 125]⟩], .int .i64 200])
abbrev hg2 : Con := hrG [.agg #[.string ⟨#[80, 85, 84]⟩, .string ⟨#[47, 115, 48]⟩, .string ⟨#[]⟩, .string ⟨#[]⟩, .string ⟨#[]⟩]] (.tuple #[.string ⟨#[]⟩, .agg #[.string ⟨#[]⟩, .string ⟨#[]⟩, .string ⟨#[]⟩, .string ⟨#[]⟩, .string ⟨#[]⟩, .string ⟨#[]⟩, .string ⟨#[]⟩], .int .i64 405])
theorem hg1_ok : fo_k 15 hg1 := ⟨λ_ F I w _ hr hs =>
  (hear_ok.h ⟨hq1⟩ F I w ⟨⟨by decide, by decide, by decide, by decide, by decide⟩, by decide⟩ hr hs).mono λ_ _ ⟨y, J, k1, k2, k3, k4, k5⟩ => ⟨y, J, k1, k2.trans (by kernel_rfl), k3, k4, k5⟩⟩
theorem hg2_ok : fo_k 15 hg2 := ⟨λ_ F I w _ hr hs =>
  (hear_ok.h ⟨hq2⟩ F I w ⟨⟨by decide, by decide, by decide, by decide, by decide⟩, by decide⟩ hr hs).mono λ_ _ ⟨y, J, k1, k2, k3, k4, k5⟩ => ⟨y, J, k1, k2.trans (by kernel_rfl), k3, k4, k5⟩⟩
abbrev awhC : Con where
  X := Unit
  Y := Unit
  args _ := []
  pre _ := []
  cond _ := True
  rdc _ F := RqG F
  rel _ _ := True
  val _ _ := .returned (.bool true)
  post _ _ := []
  rmono _ _ _ hs h := h.sub hs
def at7' (j : Nat) : List LH := [.aq j, .aq j, .aq j, .aq j, .aq j, .aq j, .aq j]
abbrev q92 : List Value := [fo_vs ⟨#[103, 111]⟩, fo_vs sExt, fo_vs ⟨#[]⟩, fo_vs ⟨#[]⟩, fo_vs sTyp, fo_vs ⟨#[]⟩, fo_vs ⟨#[123, 34, 97, 34, 58, 34, 49, 34, 125]⟩]
theorem awh_vc (x : PUnit) (F : Atom) (hc : awhC.cond x) (hr : awhC.rdc x F) :
 fo_C2 15 hg1 q80 (λ_ => Gl) [agg { toList := [fo_vs ⟨#[80, 79, 83, 84]⟩, fo_vs ⟨#[47, 115, 48]⟩, fo_vs ⟨#[]⟩, fo_vs ⟨#[97, 112, 112, 108, 105, 99, 97, 116, 105, 111, 110, 47, 120, 45, 119, 119, 119, 45, 102, 111, 114, 109, 45, 117, 114, 108, 101, 110, 99, 111, 100, 101, 100]⟩, fo_vs ⟨#[95, 115, 99, 120, 109, 108, 101, 118, 101, 110, 116, 110, 97, 109, 101, 61, 103, 111, 38, 97, 61, 49]⟩] }] (q112 F) (λi h => ∀(g : Nat), fo_s5 g (fo_sm g 5 ∧ fo_sm g 6 ∧ fo_C2 15 hg2 q80 (λ_ => Gl) [agg ⟨[fo_vs ⟨#[80, 85, 84]⟩, fo_vs ⟨#[47, 115, 48]⟩, fo_vs ⟨#[]⟩, fo_vs ⟨#[]⟩, fo_vs ⟨#[]⟩]⟩] (fo_aR [(0, F), (1, fo_cl g q92 51)] []) (λf e => ∀(d : Nat), fo_s5 d (fo_sm d 5 ∧ fo_sm d 6 ∧ fo_C2 14 reqI q80 (λ_ => RqG) [agg ⟨[fo_vi 0, fo_vi 0, fo_vi 6, fo_vs ⟨#[]⟩, fo_vs ⟨#[104]⟩, fo_vi 81, fo_vs ⟨#[47, 120]⟩, fo_vs ⟨#[101]⟩, fo_vs ⟨#[]⟩, fo_vs ⟨#[]⟩, fo_vs ⟨#[]⟩, fo_vs ⟨#[]⟩, fo_vs ⟨#[]⟩, fo_vs ⟨#[123, 34, 97, 34, 58, 49, 125]⟩]⟩] (fo_aR [(0, F), (1, fo_cl g q92 51), (2, fo_cl d q1 51)] []) (λc b => ∀(a : Nat), fo_s5 a (fo_sm g 0 ∧ fo_sm g 6 ∧ fo_sm a 2 ∧ fo_sm a 4 ∧ Done awhC x F (fo_rt (fo_vb (uBd.toList == (ByteArray.mk #[95, 115, 99, 120, 109, 108, 101, 118, 101, 110, 116, 110, 97, 109, 101, 61, 101, 38, 97, 61, 49]).toList))) [(0, F), (1, fo_cl g q92 51), (2, fo_cl d q1 51), (3, fo_cl a [fo_vs ⟨#[80, 79, 83, 84]⟩, fo_vs ⟨#[47, 120]⟩, fo_vs ⟨#[104, 58, 56, 49]⟩, fo_vs uFm, fo_vs uBd] 45)])))))) := by
  delta q80 q112 q92 q1 fo_aR fo_sm fo_s5 fo_C2 fo_vi fo_vs fo_vb fo_cl fo_rt
  have hr : RqG F := hr
  have fr : ∀ (S : St) (touch : List Nat), 0 ∉ touch → gt S 0 = F → RqG (.pred (rest S touch)) := λS touch h e => hr.sub (sub_rest (A := F) 0 h e)
  exact ⟨hg1_ok, rfl, (), rfl, rfl, fo_tv, (fr _ _ (by simp) rfl).gl, λ_ _ b => ⟨⟨rfl, rfl⟩, ⟨rfl, rfl⟩, ⟨rfl, rfl⟩, ⟨rfl, rfl⟩, ⟨rfl, rfl⟩, ⟨rfl, rfl⟩, ⟨rfl, rfl⟩, hg2_ok, rfl, (), rfl, rfl, fo_tv, (fr _ _ (by simp) rfl).gl, λ_ _ b1 => ⟨⟨rfl, rfl⟩, ⟨rfl, rfl⟩, ⟨rfl, rfl⟩, ⟨rfl, rfl⟩, ⟨rfl, rfl⟩, ⟨rfl, rfl⟩, ⟨rfl, rfl⟩, req_ok, rfl, (), rfl, rfl, fo_tv, (fr _ _ (by simp) rfl), λ_ _ b2 => ⟨⟨rfl, rfl⟩, ⟨rfl, rfl⟩, ⟨rfl, rfl⟩, ⟨rfl, rfl⟩, ⟨rfl, rfl⟩, ⟨rfl, rfl⟩, ⟨rfl, rfl⟩, ⟨rfl, rfl⟩, ⟨rfl, rfl⟩, (), fo_tv, by kernel_rfl, Ent.pick [0] rfl rfl⟩⟩⟩⟩
theorem awh_ok : fo_k 5 awhC := fo 62 Tryz.func5 (λ_ _ => [(1, 1, .c hg1 [] []), (1, 6, .n 1), (1, 8, .w (at7' 1)), (2, 1, .c hg2 [] []), (2, 6, .n 2), (2, 8, .w (at7' 2)), (3, 3, .c reqI [] []), (3, 7, .n 3), (3, 8, .w (at5 3)), (4, 4, .q [.aq 1]), (4, 9, .q [.aq 1]), (4, 26, .q [.aq 3]), (4, 31, .q [.aq 3])]) [] fo_i fo_i fo_o [] awh_vc
structure EvX where
  n : ByteArray
  k : ByteArray
  t : ByteArray
  d : ByteArray
def evA (x : EvX) : Value := .agg #[.string x.n, .string x.k, .string ⟨#[]⟩, .string ⟨#[]⟩, .string x.t, .string ⟨#[]⟩, .string x.d]
def eqEv : QCon where
  X := EvX
  args x := [evA x, evA x]
  cond _ := True
  val _ := .bool true
theorem eqEv_ok {o : Oper} {x y : Operand} {rt : TypeId} (ho : o.op = .binOp .eql 51 x y rt) : QOpOk Tryz.prog o eqEv := by
  refine ⟨λX w ρ ha hc => ?_⟩
  simp only [ho, Op.operands, eqEv] at ha
  obtain ⟨hx, hy⟩ : ρ x = evA X ∧ ρ y = evA X := by simpa using ha
  have hS : Tryz.prog.underlying 51 = some (.struct (Tryz.prog.fieldsOf 51)) := by kernel_rfl
  have hp : Tryz.prog.stoodInHeld 51 = false := by kernel_rfl
  have hg : Tryz.prog.eqGuardType Tryz.prog.depth 51 = false := by kernel_rfl
  unfold evA at hx hy
  have he : (Op.equalIn (9999 + 1) 51 (.agg #[.string X.n, .string X.k, .string ⟨#[]⟩, .string ⟨#[]⟩, .string X.t, .string ⟨#[]⟩, .string X.d]) (.agg #[.string X.n, .string X.k, .string ⟨#[]⟩, .string ⟨#[]⟩, .string X.t, .string ⟨#[]⟩, .string X.d])).run Tryz.prog w = .ok true w := by
    rw [run_equalIn_agg w 9999 51 _ _ hS hp]
    have hf : ((Tryz.prog.fieldsOf 51).toList.map λf => (f.name, f.type, f.offset)) = [("Name", 9, 0), ("Kind", 9, 1), ("SendId", 9, 2), ("Origin", 9, 3), ("OriginType", 9, 4), ("InvokeId", 9, 5), ("Data", 9, 6)] := by kernel_rfl
    have h9 : Tryz.prog.underlying 9 = some .string := by kernel_rfl
    revert hf
    generalize (Tryz.prog.fieldsOf 51).toList = fs
    intro hf
    rcases fs with _ | ⟨f1, _ | ⟨f2, _ | ⟨f3, _ | ⟨f4, _ | ⟨f5, _ | ⟨f6, _ | ⟨f7, _ | ⟨f8, r⟩⟩⟩⟩⟩⟩⟩⟩ <;> simp at hf
    obtain ⟨⟨n1, t1, o1⟩, ⟨n2, t2, o2⟩, ⟨n3, t3, o3⟩, ⟨n4, t4, o4⟩, ⟨n5, t5, o5⟩, ⟨n6, t6, o6⟩, ⟨n7, t7, o7⟩⟩ := hf
    simp only [Op.eqFields, n1, t1, o1, n2, t2, o2, n3, t3, o3, n4, t4, o4, n5, t5, o5, n6, t6, o6, n7, t7, o7]
    have e9 : ∀ (a b : ByteArray) (w : World), (Op.equalIn 9999 9 (.string a) (.string b)).run Tryz.prog w = .ok (a.toList == b.toList) w := λa b w => run_equalIn_string w 9998 9 a b h9
    go_simp
  simp [execOp, ho, hx, hy, run_eqGuard_agg _ _ _ _ _ _ _ hg, run_eql_struct, he, eqEv]
abbrev lwC : Con where
  X := RqX
  Y := Unit
  args x := [.agg #[.string x.r.m, .string x.r.t, .string x.r.h, .string x.r.y, .string x.r.b]]
  pre _ := []
  cond x := x.r.m.size + x.r.t.size + x.r.h.size + x.r.y.size + x.r.b.size ≤ 703687441776640
  rdc _ F := RqG F
  rel _ _ := True
  val _ _ := .returned (.bool true)
  post _ _ := []
  rmono _ _ _ hs h := h.sub hs
abbrev q39 (h : RqX) : List Value := [fo_vs (hearV h.r).n, fo_vs (hearV h.r).k, fo_vs eNul, fo_vs eNul, fo_vs (hearV h.r).t, fo_vs eNul, fo_vs (hearV h.r).d]
abbrev q274 (a : EvX) : List Value := [fo_vs a.n, fo_vs a.k, fo_vs ⟨#[]⟩, fo_vs ⟨#[]⟩, fo_vs a.t, fo_vs ⟨#[]⟩, fo_vs a.d]
theorem lw_vc (x : RqX) (F : Atom) (hc : lwC.cond x) (hr : lwC.rdc x F) :
 ∀(o : Nat), fo_C2 5 awhC q80 (λ_ => RqG) ([] : List Value) (fo_aR (q192 F o x) []) (λm l => fo_s5 o (fo_C1 16 lwsC (λj => j.a.size + j.b.size + j.c.size + j.d.size + j.e.size ≤ 703687441776640) (q373 x) (λj i => Br (!decide (j.a.size + j.b.size + j.c.size + j.d.size + j.e.size ≤ 9000)) (Done lwC x F q285 (q192 F o x)) (fo_s5 o (fo_C2 15 hearC (λh => h.r.ok ∧ h.r.b.size ≤ 262144) (λ_ => Gl) (q373 x) (fo_aR (q192 F o x) []) (λh g => ∀(f : Nat), fo_s5 f (fo_sm f 5 ∧ fo_sm f 6 ∧ fo_s5 o (fo_C1 17 rhearC (λe => e.r.ok ∧ e.r.b.size ≤ 16384) (q373 x) (λe c => ∀(b : Nat), fo_s5 b (fo_sm b 5 ∧ fo_sm b 6 ∧ Br ((hearV h.r).p.toList == (hearV e.r).p.toList) (fo_s5 f (fo_sm f 5 ∧ fo_sm f 6 ∧ fo_s5 b (fo_sm b 5 ∧ fo_sm b 6 ∧ QOpOk Tryz.prog (opIn Tryz.f4 7 6) eqEv ∧ ∃(a : EvX), [agg ⟨q39 h⟩, agg ⟨q39 e⟩] = [agg ⟨q274 a⟩, agg ⟨q274 a⟩] ∧ True ∧ Done lwC x F (fo_rt (fo_vb ((↑(hearV h.r).s : Int) == (↑(hearV e.r).s : Int)))) [(0, F), (1, fo_cl o (q0 x) 45), (2, fo_cl f (q39 h) 51), (3, fo_cl b (q39 e) 51)]))) (Done lwC x F q87 [(0, F), (1, fo_cl o (q0 x) 45), (2, fo_cl f (q39 h) 51), (3, fo_cl b (q39 e) 51)]))))))))))) := by
  delta q80 q0 q192 q373 q285 q39 q274 q87 fo_aR fo_sm fo_s5 fo_C1 fo_C2 fo_vs fo_vb fo_cl fo_rt
  have hr : RqG F := hr
  have fr : ∀ (S : St) (touch : List Nat), 0 ∉ touch → gt S 0 = F → RqG (.pred (rest S touch)) := λS touch h e => hr.sub (sub_rest (A := F) 0 h e)
  obtain ⟨⟨m, t, h, y, d⟩⟩ := x
  have hc' : m.size + t.size + h.size + y.size + d.size ≤ 703687441776640 := hc
  refine λb => ⟨awh_ok, rfl, (), rfl, rfl, fo_tv, (fr _ _ (by simp) rfl), λ_ _ => ⟨⟨rfl, rfl⟩, ⟨rfl, rfl⟩, ⟨rfl, rfl⟩, ⟨rfl, rfl⟩, ⟨rfl, rfl⟩, lws_ok, rfl, ⟨m, t, h, y, d⟩, rfl, rfl, by dsimp only; omega, fo_tv, λ_ _ => br_intro (λ_ => ⟨(), fo_tv, rfl, Ent.pick [0] rfl rfl⟩) (λq => ?_)⟩⟩
  have q : (!decide (m.size + t.size + h.size + y.size + d.size ≤ 9000)) = false := q
  have q : m.size + t.size + h.size + y.size + d.size ≤ 9000 := by simpa using q
  have hc : Req.ok ⟨m, t, h, y, d⟩ := ⟨by dsimp only; omega, by dsimp only; omega, by dsimp only; omega, by dsimp only; omega, by dsimp only; omega⟩
  refine ⟨⟨rfl, rfl⟩, ⟨rfl, rfl⟩, ⟨rfl, rfl⟩, ⟨rfl, rfl⟩, ⟨rfl, rfl⟩, hear_ok, rfl, ⟨⟨m, t, h, y, d⟩⟩, rfl, rfl, ⟨hc, by dsimp only; omega⟩, (fr _ _ (by simp) rfl).gl, λ_ _ b1 => ⟨⟨rfl, rfl⟩, ⟨rfl, rfl⟩, ⟨rfl, rfl⟩, ⟨rfl, rfl⟩, ⟨rfl, rfl⟩, ⟨rfl, rfl⟩, ⟨rfl, rfl⟩, ⟨rfl, rfl⟩, ⟨rfl, rfl⟩, ⟨rfl, rfl⟩, ⟨rfl, rfl⟩, ⟨rfl, rfl⟩, rhear_ok, rfl, ⟨⟨m, t, h, y, d⟩⟩, rfl, rfl, ⟨hc, by dsimp only; omega⟩, fo_tv, λ_ _ b2 => ⟨⟨rfl, rfl⟩, ⟨rfl, rfl⟩, ⟨rfl, rfl⟩, ⟨rfl, rfl⟩, ⟨rfl, rfl⟩, ⟨rfl, rfl⟩, ⟨rfl, rfl⟩, ?_⟩⟩⟩
  generalize hearV ⟨m, t, h, y, d⟩ = z
  refine br_intro (λ_ => ⟨⟨rfl, rfl⟩, ⟨rfl, rfl⟩, ⟨rfl, rfl⟩, ⟨rfl, rfl⟩, ⟨rfl, rfl⟩, ⟨rfl, rfl⟩, ⟨rfl, rfl⟩, ⟨rfl, rfl⟩, ⟨rfl, rfl⟩, ⟨rfl, rfl⟩, ⟨rfl, rfl⟩, ⟨rfl, rfl⟩, ⟨rfl, rfl⟩, ⟨rfl, rfl⟩, eqEv_ok rfl, ⟨z.n, z.k, z.t, z.d⟩, rfl, fo_tv, (), fo_tv, by show returned (.bool _) = .returned (.bool true); rw [beq_self_eq_true], Ent.pick [0] rfl rfl⟩) (λe => ?_)
  rw [beq_self_eq_true] at e
  cases e
theorem lw_ok : fo_k 4 lwC := fo 39 Tryz.func4 (λ_ _ => [(0, 0, .n 1), (1, 0, .c awhC [] []), (3, 0, .q (at5 1)), (3, 1, .c lwsC [] []), (5, 0, .q (at5 1)), (5, 1, .c hearC [] []), (5, 6, .n 2), (5, 8, .w (at7' 2)), (6, 0, .q (at5 1)), (6, 1, .c rhearC [] []), (6, 6, .n 3), (6, 8, .w (at7' 3)), (7, 4, .q (at7' 2)), (7, 5, .q (at7' 3)), (7, 6, .qo eqEv)]) [] fo_i fo_i fo_o [] lw_vc
end
end Go.Proofs.YtjdabjmjldiodaaGreatDoor
