/- A part of the proof that pennantlaw23.BasicHears answers true at every input. -/
import Derived.Test.YtjdabjmjldiodaaGreatDoorPHaj
set_option linter.all false
namespace Go.Proofs.YtjdabjmjldiodaaGreatDoor
set_option maxRecDepth 100000
open Go.Value (int slice string bool pointer agg tuple func float iface nilIface)
open Go.IntKind (i64 u8 u64 i32 u32 u16 i8 i16)
open Go.FloatKind (f64)
open Go.Ending (returned panicked)
section
open Go
set_option maxHeartbeats 1000000
structure RdK where
  K : Ctx
  E : EscF
structure RdK.ok (k : RdK) : Prop where
  e : fo_k 180 (esfC k.E)
  n : fo_k 184 (nn1C k.K)
structure VlX where
  k : RdK
  b : Nat
  w : ByteArray
  i : Nat
  d : Int
  v : Pv
  j : Nat
inductive VlAt (k : RdK) (w : ByteArray) (i : Nat) : Pv → Nat → Prop
  | t (j : Nat) (o : ByteArray) : jpk w i = 34 → jtx k.E w (w.size + 1) (i + 1) ⟨#[]⟩ = some (j, o) → j ≤ 1048576 → isBk (jpk w j) = false → VlAt k w i (.t o) j
  | n : jpk w i = 49 → jpk w (i + 1) = 125 → cgV w i (i + 4) ≠ wideV ⟨#[110, 117, 108, 108]⟩ → cgV w i (i + 4) ≠ wideV ⟨#[116, 114, 117, 101]⟩ → cgV w i (i + 5) ≠ wideV ⟨#[102, 97, 108, 115, 101]⟩ → VlAt k w i (.n (k.K.nv (cgV w i (i + 1)))) (i + 1)
abbrev vlC : Con where
  X := VlX
  Y := Unit
  args x := [.pointer (some ⟨x.b, 0, none⟩), .int .i64 x.d]
  pre x := [jrA x.b x.w x.i]
  cond x := x.w.size ≤ 1048576 ∧ x.i ≤ 1048575 ∧ x.k.ok ∧ VlAt x.k x.w x.i x.v x.j
  rdc x F := x.k.K.rd F ∧ Utf F
  rel _ _ := True
  val x _ := .returned (lfV x.v)
  post x _ := [jrA x.b x.w x.j]
  rmono x _ _ hs h := ⟨x.k.K.mono h.1 hs, h.2.sub hs⟩
theorem vl_ok : fo_k 82 vlC := ⟨λx F I w hc hr hs => by
  obtain ⟨k, b, ws, i, d, v, j⟩ := x
  obtain ⟨h1, h2, h3, h4⟩ := hc
  have h4 : VlAt k ws i v j := h4
  cases h4 with
  | t j o a1 a2 a3 a4 => exact vt_ok.h ⟨k.E, b, ws, i, d, j, o⟩ F I w ⟨⟨h1, h2, h3.e⟩, a1, a2, a3, a4⟩ trivial hs
  | n a1 a2 a3 a4 a5 => exact vn_ok.h ⟨k.K, b, ws, i, d⟩ F I w ⟨⟨h1, h2, h3.n⟩, a1, a2, a3, a4, a5⟩ hr hs⟩
inductive ObAt (k : RdK) (w : ByteArray) : Nat → KVs → Nat → Prop
  | last (i i1 i2 : Nat) (s : ByteArray) (v : Pv) : jpk w i = 34 → jtx k.E w (w.size + 1) (i + 1) ⟨#[]⟩ = some (i1, s) → i1 ≤ 1048570 → jpk w i1 = 58 → VlAt k w (i1 + 1) v i2 → i2 ≤ 1048570 → jpk w i2 = 125 → i ≤ 1048570 → ObAt k w i [(s, v)] (i2 + 1)
  | more (i i1 i2 j : Nat) (s : ByteArray) (v : Pv) (l : KVs) : jpk w i = 34 → jtx k.E w (w.size + 1) (i + 1) ⟨#[]⟩ = some (i1, s) → i1 ≤ 1048570 → jpk w i1 = 58 → VlAt k w (i1 + 1) v i2 → i2 ≤ 1048570 → jpk w i2 = 44 → i ≤ 1048570 → ObAt k w (i2 + 1) l j → ObAt k w i ((s, v) :: l) j
theorem ObAt.hd {k : RdK} {w : ByteArray} {i j : Nat} {l : KVs} (h : ObAt k w i l j) : ∃ (i1 i2 : Nat) (s : ByteArray) (v : Pv) (r : KVs), l = (s, v) :: r ∧ jpk w i = 34 ∧ jtx k.E w (w.size + 1) (i + 1) ⟨#[]⟩ = some (i1, s) ∧ i1 ≤ 1048570 ∧ jpk w i1 = 58 ∧ VlAt k w (i1 + 1) v i2 ∧ i2 ≤ 1048570 ∧ i ≤ 1048570 ∧ ((r = [] ∧ jpk w i2 = 125 ∧ j = i2 + 1) ∨ (jpk w i2 = 44 ∧ ObAt k w (i2 + 1) r j)) := by
  cases h with
  | last _ i1 i2 s v a b c d e f g h => exact ⟨i1, i2, s, v, [], rfl, a, b, c, d, e, f, h, .inl ⟨rfl, g, rfl⟩⟩
  | more _ i1 i2 _ s v l a b c d e f g h q => exact ⟨i1, i2, s, v, l, rfl, a, b, c, d, e, f, h, .inr ⟨g, q⟩⟩
structure MnX where
  k : RdK
  b : Nat
  w : ByteArray
  i : Nat
  d : Int
  l : KVs
  j : Nat
structure MnY where
  kr : Row
  vr : Row
def lfsL (l : KVs) : List Value := l.flatMap λp => lfL p.2
theorem lfL_one (v : Pv) : ∀ u ∈ lfL v, u.oneCell' = true := by
  intro u hu
  simp only [lfL, List.mem_cons, List.not_mem_nil, or_false] at hu
  rcases hu with rfl | rfl | rfl | rfl | rfl | rfl | rfl | rfl <;> rfl
theorem lfsL_snoc (l : KVs) (p : ByteArray × Pv) : lfsL (l ++ [p]) = lfsL l ++ lfL p.2 := by simp [lfsL]
theorem ksL_snoc (l : KVs) (p : ByteArray × Pv) : ksL (l ++ [p]) = ksL l ++ [.string p.1] := by simp [ksL, strs]
structure MnY.ok (l : KVs) (y : MnY) : Prop where
  k : IsRow 9 1 (ksL l) y.kr
  v : IsRow 141 8 (lfsL l) y.vr
  kn : y.kr.n = l.length
  vn : y.vr.n = l.length
def mnV (y : MnY) : Value := .agg #[.int .i64 0, .float .f64 0, .string ⟨#[]⟩, .int .i64 0, .bool false, .slice y.kr.a y.kr.n y.kr.cap, .slice y.vr.a y.vr.n y.vr.cap, .bool true]
abbrev mnC : Con where
  X := MnX
  Y := MnY
  args x := [.pointer (some ⟨x.b, 0, none⟩), .bool false, .int .i64 x.d]
  pre x := [jrA x.b x.w x.i]
  cond x := x.w.size ≤ 1048576 ∧ x.i ≤ 1048570 ∧ x.k.ok ∧ ObAt x.k x.w (x.i + 1) x.l x.j ∧ x.l.length ≤ 1000000
  rdc x F := x.k.K.rd F ∧ Utf F
  rel x y := y.ok x.l
  val _ y := .returned (mnV y)
  post x y := [jrA x.b x.w x.j, y.kr.A, y.vr.A]
  rmono x _ _ hs h := ⟨x.k.K.mono h.1 hs, h.2.sub hs⟩
structure MnS where
  r : Nat
  n : Nat
  i : Nat
  o : KVs
  l : KVs
  y : MnY
structure MnS.ok (x : MnX) (d : MnS) : Prop where
  e : x.l = d.o ++ d.l
  a : ObAt x.k x.w d.i d.l x.j
  y : d.y.ok d.o
def mnInv (x : MnX) (F : Atom) : Nat → Option Inv := fun
  | 0 => some { X := MnS, P := λd => d.ok x, mu := λd => d.l.length, lv := λd => [(0, .pointer (some ⟨x.b, 0, none⟩)), (1, .bool false), (2, .int .i64 x.d), (6, .pointer (some ⟨d.r, 0, none⟩)), (7, .pointer (some ⟨d.n, 0, none⟩)), (8, .int .i64 125)], st := λd => [jrA x.b x.w d.i, F, .cells d.n [.int .i64 0, .float .f64 0, .string ⟨#[]⟩, .int .i64 0, .bool false, .slice d.y.kr.a d.y.kr.n d.y.kr.cap, .slice d.y.vr.a d.y.vr.n d.y.vr.cap, .bool true] 141, d.y.kr.A, d.y.vr.A, .cells d.r lfL0 141] }
  | _ => none
abbrev q150 (x : MnX) : Option Addr := some ⟨x.b, 0, none⟩
abbrev q371 (x : MnX) : List Value := [fo_vp (q150 x)]
abbrev q67 (x : MnX) (F : Atom) (D C : Nat) := [(0, fo_cl x.b [fo_vs x.w, fo_vi ((x.i : Int) + 1)] 138), (1, F), (1000, fo_cl D q3 141), (1020, fo_cl C [fo_vi 0, float f64 0, fo_vs ⟨#[]⟩, fo_vi 0, fo_vb false, fo_vl none 0 0, fo_vl none 0 0, fo_vb true] 141)]
abbrev q204 (a : MnS) : List Value := [fo_vi 0, float f64 0, fo_vs ⟨#[]⟩, fo_vi 0, fo_vb false, fo_vl a.y.kr.a a.y.kr.n a.y.kr.cap, fo_vl a.y.vr.a a.y.vr.n a.y.vr.cap, fo_vb true]
abbrev q47 (x : MnX) (a : MnS) (F : Atom) := [(0, fo_cl x.b [fo_vs x.w, fo_vi ↑a.i] 138), (1, F), (2, fo_cl a.n (q204 a) 141), (3, a.y.kr.A), (4, a.y.vr.A), (5, fo_cl a.r q3 141)]
abbrev q120 (o : Row) (w : MnS) : List Value := [fo_vi 0, float f64 0, fo_vs ⟨#[]⟩, fo_vi 0, fo_vb false, fo_vl o.a o.n o.cap, fo_vl w.y.vr.a w.y.vr.n w.y.vr.cap, fo_vb true]
abbrev q363 (j : VlX) : List Value := [fo_vs j.w, fo_vi ↑j.j]
abbrev q89 (j : VlX) : List Value := [fo_vi j.v.k, float f64 j.v.f, fo_vs j.v.s, fo_vi 0, fo_vb false, fo_vl none 0 0, fo_vl none 0 0, fo_vb false]
abbrev q63 (o f : Row) : List Value := [fo_vi 0, float f64 0, fo_vs ⟨#[]⟩, fo_vi 0, fo_vb false, fo_vl o.a o.n o.cap, fo_vl f.a f.n f.cap, fo_vb true]
theorem mn_vc (x : MnX) (F : Atom) (hc : mnC.cond x) (hr : mnC.rdc x F) :
 ∀(D C : Nat), fo_s5 C (fo_sm C 5 ∧ fo_sm C 6 ∧ fo_sm C 7 ∧ fo_sm x.b 1 ∧ fo_rI ((x.i : Int) + 1) ∧ fo_sm x.b 1 ∧ T97 (q371 x) (fo_aR (q67 x F D C) []) (λB A => T98 (q371 x) (fo_aR (q67 x F D C) []) (λz y => (∃(a : MnS), MnS.ok x a ∧ (fo_vp (q150 x) = fo_vp (q150 x) ∧ fo_vb false = fo_vb false ∧ fo_vi x.d = fo_vi x.d ∧ fo_vp (q13 D) = fo_vp (some ⟨a.r, 0, none⟩) ∧ fo_vp (q13 C) = fo_vp (some ⟨a.n, 0, none⟩) ∧ fo_vi 125 = fo_vi 125 ∧ True) ∧ Ent (q67 x F D C) (q47 x a F)) ∧ fo_vA λ(w : MnS) _ => MnS.ok x w → T97 (q371 x) (fo_aR (q47 x w F) []) (λu t => true = true ∧ fo_sm w.n 5 ∧ T99 (q371 x) [fo_cl x.b [fo_vs x.w, fo_vi ↑w.i] 138] (λs r => ∀(q : Nat), T51 (opIn Tryz.f127 12 5) [fo_vl w.y.kr.a w.y.kr.n w.y.kr.cap, fo_vl (q13 q) 1 1] [w.y.kr.A] (fo_aR [(0, fo_cl s.b (q315 s) 138), (1, F), (2, fo_cl w.n (q204 w) 141), (3, w.y.kr.A), (4, w.y.vr.A), (5, fo_cl w.r q3 141), (12050, fo_cl q [fo_vs s.o] 9)] [3]) (λp o => fo_sm w.n 5 ∧ T97 (q371 x) (fo_aR [(0, fo_cl s.b (q315 s) 138), (1, F), (2, fo_cl w.n (q120 o w) 141), (3, o.A), (4, w.y.vr.A), (5, fo_cl w.r q3 141), (12050, fo_cl q [fo_vs s.o] 9)] []) (λn m => T90 [fo_vp (q150 x), fo_vi 58] [fo_cl s.b (q315 s) 138] (λl k => true = true ∧ fo_sm w.n 6 ∧ fo_C4 82 vlC (λj => j.w.size ≤ 1048576 ∧ j.i ≤ 1048575 ∧ j.k.ok ∧ VlAt j.k j.w j.i j.v j.j) (λj rr => j.k.K.3 rr ∧ Utf rr) (λ_ _ => True) [fo_vp (q150 x), fo_vi x.d] [fo_cl l.b (q66 l) 138] (fo_aR [(0, fo_cl l.b (q66 l) 138), (1, F), (2, fo_cl w.n (q120 o w) 141), (3, o.A), (4, w.y.vr.A), (5, fo_cl w.r q3 141), (12050, fo_cl q [fo_vs s.o] 9)] [0]) (λj i => ∀(h : Nat), fo_O4 (opIn Tryz.f127 15 6) (apC (141 : TypeId) 8 104) (λg => IsRow 141 8 g.cs g.r ∧ g.ys.length = g.m * 8 ∧ q134 g ∧ (g.r.n + g.m) * 104 ≤ 140737488355328 ∧ g.r.n + g.m ≤ 9223372036854775807 ∧ q247 g) (λg rr => q318 g rr) (λg f => IsRow 141 8 (g.cs ++ g.ys) f ∧ f.n = g.r.n + g.m ∧ (g.m = 0 → f = g.r)) [fo_vl w.y.vr.a w.y.vr.n w.y.vr.cap, fo_vl (q13 h) 1 1] [w.y.vr.A] (fo_aR [(0, fo_cl j.b (q363 j) 138), (1, F), (2, fo_cl w.n (q120 o w) 141), (3, o.A), (4, w.y.vr.A), (5, fo_cl w.r q3 141), (12050, fo_cl q [fo_vs s.o] 9), (15060, fo_cl h (q89 j) 141)] [4]) (λg f => fo_sm w.n 6 ∧ T87 (q371 x) (fo_aR [(0, fo_cl j.b (q363 j) 138), (1, F), (2, fo_cl w.n (q63 o f) 141), (3, o.A), (4, f.A), (5, fo_cl w.r q3 141), (12050, fo_cl q [fo_vs s.o] 9), (15060, fo_cl h (q89 j) 141)] []) (λe d => Br (jpk e.w e.i == 125) (T59 (fo_cl j.b (q363 j) 138) ⟨x.b, 1, none⟩ (λa => fo_rI (a + 1) ∧ Same ⟨x.b, 1, none⟩ j.b ∧ fo_s5 w.n (fo_sm w.n 5 ∧ fo_sm w.n 6 ∧ fo_sm w.n 7 ∧ fo_s5 w.r (fo_sm w.r 5 ∧ fo_sm w.r 6 ∧ fo_sm w.r 7 ∧ fo_s5 w.r (fo_sm w.r 5 ∧ fo_sm w.r 6 ∧ fo_sm w.r 7 ∧ Done mnC x F (fo_rt (agg ⟨q63 o f⟩)) [(0, fo_cl j.b [fo_vs j.w, fo_vi (a + 1)] 138), (1, F), (2, fo_cl w.n (q63 o f) 141), (3, o.A), (4, f.A), (5, fo_cl w.r (q63 o f) 141), (12050, fo_cl q [fo_vs s.o] 9), (15060, fo_cl h (q89 j) 141)]))))) (T90 [fo_vp (q150 x), fo_vi 44] [fo_cl j.b (q363 j) 138] (λc b => ∃(a : MnS), MnS.ok x a ∧ (fo_vp (q150 x) = fo_vp (q150 x) ∧ fo_vb false = fo_vb false ∧ fo_vi x.d = fo_vi x.d ∧ fo_vp (some ⟨w.r, 0, none⟩) = fo_vp (some ⟨a.r, 0, none⟩) ∧ fo_vp (some ⟨w.n, 0, none⟩) = fo_vp (some ⟨a.n, 0, none⟩) ∧ fo_vi 125 = fo_vi 125 ∧ True) ∧ Ent [(0, fo_cl c.b (q66 c) 138), (1, F), (2, fo_cl w.n (q63 o f) 141), (3, o.A), (4, f.A), (5, fo_cl w.r q3 141), (12050, fo_cl q [fo_vs s.o] 9), (15060, fo_cl h (q89 j) 141)] (q47 x a F) ∧ List.length a.l < List.length w.l))))))))))))) := by
  delta T97 q150 q371 q3 q67 T98 q13 q204 q47 q34 T99 q258 q247 q114 T51 q315 q120 T90 q66 q134 q318 q363 q89 T87 q63 T59 fo_aR fo_sm fo_rI fo_s5 fo_C2 fo_C3 fo_C4 fo_O4 fo_vi fo_vs fo_vb fo_vp fo_vl fo_cl fo_rt fo_vA
  obtain ⟨h1, h2, hk, hob, hl⟩ := hc
  obtain ⟨hr, hu⟩ := hr
  have hr : x.k.K.rd F := hr
  obtain ⟨a1, a2, ws, wv, wr, we, b1, b2, b3, b4, b5, b6, b7, b8⟩ := hob.hd
  intro b n
  refine ⟨⟨rfl, rfl⟩, ⟨rfl, rfl⟩, ⟨rfl, rfl⟩, ⟨rfl, rfl⟩, ⟨rfl, rfl⟩, ⟨rfl, rfl⟩, ⟨rfl, rfl⟩, ⟨rfl, rfl⟩, ⟨rfl, rfl⟩, ⟨by omega, by omega⟩, ⟨rfl, rfl⟩, blf_ok, rfl, ⟨x.b, x.w, x.i + 1, ⟨#[]⟩, 0⟩, rfl, rfl, ⟨h1, by dsimp only; omega, by rw [show jpk x.w (x.i + 1) = 34 from b1] <;> rfl⟩, JrIn.sub (sub_rest 0 (by simp) rfl) (.jr ⟨x.b, x.w, x.i + 1, ⟨#[]⟩, 0⟩), λ_ _ => ⟨pkk_ok, rfl, ⟨x.b, x.w, x.i + 1, ⟨#[]⟩, 0⟩, rfl, rfl, ⟨h1, by dsimp only; omega, b1⟩, JrIn.sub (sub_rest 0 (by simp) rfl) (.jr ⟨x.b, x.w, x.i + 1, ⟨#[]⟩, 0⟩), λ_ _ => ⟨⟨⟨b, n, x.i + 1, [], x.l, ⟨nilRow, nilRow⟩⟩, ⟨rfl, hob, ⟨.nil rfl, .nil rfl, rfl, rfl⟩⟩, ⟨rfl, rfl, rfl, rfl, rfl, rfl, fo_tv⟩, Ent.pick [0, 1, 1020, 999, 998, 1000] rfl rfl⟩, ?_⟩⟩⟩
  clear hob a1 a2 ws wv wr we b1 b2 b3 b4 b5 b6 b7 b8 b n
  rintro ⟨r, n, i, o, l, ⟨kr, vr⟩⟩ js ⟨he, hob, ⟨hk1, hv1, hkn, hvn⟩⟩
  dsimp only at he hob hk1 hv1 hkn hvn ⊢
  obtain ⟨i1, i2, s, v, l2, rfl, b1, b2, b3, b4, b5, b6, b7, b8⟩ := hob.hd
  have hol : o.length + (l2.length + 1) ≤ 1000000 := by
    have : x.l.length = o.length + (l2.length + 1) := by rw [he, fo_la, fo_lc]
    omega
  refine ⟨blf_ok, rfl, ⟨x.b, x.w, i, ⟨#[]⟩, 0⟩, rfl, rfl, ⟨h1, by dsimp only; omega, by rw [show jpk x.w i = 34 from b1] <;> rfl⟩, JrIn.sub (sub_rest 0 (by simp) rfl) (.jr ⟨x.b, x.w, i, ⟨#[]⟩, 0⟩), λ_ _ => ⟨rfl, ⟨rfl, rfl⟩, txf_ok, rfl, ⟨x.k.E, x.b, x.w, i, i1, s⟩, rfl, rfl, ⟨⟨h1, by dsimp only; omega, hk.e⟩, b1, b2⟩, fo_tv, λ_ _ kb => ⟨append_ok (P := Tryz.prog) 1 16 rfl rfl rfl rfl rfl rfl rfl (by decide), rfl, ⟨kr, ksL o, some ⟨kb, 0, none⟩, 1, 1, [.string s]⟩, rfl, rfl, ⟨hk1, rfl, λu hu => by rw [List.mem_singleton.1 hu] <;> rfl, by dsimp only; omega, by dsimp only; omega, λh => nomatch h⟩, ?_, λkr2 hk2 => ?_⟩⟩⟩
  · intro a ha
    cases ha
    exact Seg.rest (j := 12050) (by simp) (Seg.cells (λj u hj => by rw [fo_za]; exact hj))
  obtain ⟨hk2, hk3, -⟩ := hk2
  dsimp only at hk2 hk3
  refine ⟨⟨rfl, rfl⟩, blf_ok, rfl, ⟨x.b, x.w, i1, ⟨#[]⟩, 0⟩, rfl, rfl, ⟨h1, by dsimp only; omega, by rw [show jpk x.w i1 = 58 from b4] <;> rfl⟩, JrIn.sub (sub_rest 0 (by simp) rfl) (.jr ⟨x.b, x.w, i1, ⟨#[]⟩, 0⟩), λ_ _ => ⟨mst_ok, rfl, ⟨x.b, x.w, i1, ⟨#[]⟩, 58⟩, rfl, rfl, ⟨h1, by dsimp only; omega, b4⟩, fo_tv, λ_ _ => ⟨rfl, ⟨rfl, rfl⟩, vl_ok, rfl, ⟨x.k, x.b, x.w, i1 + 1, x.d, v, i2⟩, rfl, rfl, ⟨h1, by dsimp only; omega, hk, b5⟩, ⟨x.k.K.mono hr (sub_rest 1 (by simp) rfl), Utf.rest (j := 1) (by simp) hu⟩, λ_ _ vb => ⟨append_ok (P := Tryz.prog) 8 104 rfl rfl rfl rfl rfl rfl rfl (by decide), rfl, ⟨vr, lfsL o, some ⟨vb, 0, none⟩, 1, 1, lfL v⟩, rfl, rfl, ⟨hv1, rfl, lfL_one v, by dsimp only; omega, by dsimp only; omega, λh => nomatch h⟩, ?_, λvr2 hv2 => ?_⟩⟩⟩⟩
  · intro a ha
    cases ha
    exact Seg.rest (j := 15060) (by simp) (Seg.cells (λj u hj => by rw [fo_za]; exact hj))
  obtain ⟨hv2, hv3, -⟩ := hv2
  dsimp only at hv2 hv3
  have hy : MnY.ok (o ++ [(s, v)]) ⟨kr2, vr2⟩ := ⟨by rw [ksL_snoc]; exact hk2, by rw [lfsL_snoc]; exact hv2, by rw [fo_la, fo_l1]; dsimp only; omega, by rw [fo_la, fo_l1]; dsimp only; omega⟩
  refine ⟨⟨rfl, rfl⟩, pkf_ok, rfl, ⟨x.b, x.w, i2, ⟨#[]⟩, 0⟩, rfl, rfl, ⟨h1, by dsimp only; omega⟩, JrIn.sub (sub_rest 0 (by simp) rfl) (.jr ⟨x.b, x.w, i2, ⟨#[]⟩, 0⟩), λ_ _ => br_intro (λc => ?_) (λc => ?_)⟩
  · have c : (jpk x.w i2 == 125) = true := c
    have c : jpk x.w i2 = 125 := by simpa using c
    rcases b8 with ⟨rfl, -, hj⟩ | ⟨d, -⟩
    · refine ⟨i2, Look.cells rfl, ⟨by omega, by omega⟩, ⟨rfl, rfl⟩, ⟨rfl, rfl⟩, ⟨rfl, rfl⟩, ⟨rfl, rfl⟩, ⟨rfl, rfl⟩, ⟨rfl, rfl⟩, ⟨rfl, rfl⟩, ⟨rfl, rfl⟩, ⟨rfl, rfl⟩, ⟨rfl, rfl⟩, ⟨rfl, rfl⟩, ⟨rfl, rfl⟩, ⟨rfl, rfl⟩, ⟨rfl, rfl⟩, ⟨rfl, rfl⟩, ⟨rfl, rfl⟩, ⟨rfl, rfl⟩, ⟨rfl, rfl⟩, ⟨rfl, rfl⟩, ⟨rfl, rfl⟩, ⟨rfl, rfl⟩, ⟨rfl, rfl⟩, ⟨rfl, rfl⟩, ⟨rfl, rfl⟩, ⟨rfl, rfl⟩, ⟨kr2, vr2⟩, ?_, rfl, Ent.pick [0, 3, 4, 1] rfl ?_⟩
      · show MnY.ok x.l ⟨kr2, vr2⟩
        rw [he]; exact hy
      · show _ = ofL [jrA x.b x.w x.j, kr2.A, vr2.A, F]
        rw [hj] <;> rfl
    · rw [c] at d; exact absurd d (by decide)
  · have c : (jpk x.w i2 == 125) = false := c
    have c : jpk x.w i2 ≠ 125 := by simpa using c
    rcases b8 with ⟨-, d, -⟩ | ⟨d, hob2⟩
    · exact (c d).elim
    · exact ⟨mst_ok, rfl, ⟨x.b, x.w, i2, ⟨#[]⟩, 44⟩, rfl, rfl, ⟨h1, by dsimp only; omega, d⟩, fo_tv, λ_ _ => ⟨⟨r, n, i2 + 1, o ++ [(s, v)], l2, ⟨kr2, vr2⟩⟩, ⟨by rw [he]; simp, hob2, hy⟩, ⟨rfl, rfl, rfl, rfl, rfl, rfl, fo_tv⟩, Ent.pick [0, 1, 2, 3, 4, 5] rfl rfl, fo_ls _⟩⟩
theorem mn_ok : fo_k 127 mnC := fo 70 Tryz.func127 (λ_ _ => [(0, 0, .n 1000), (1, 2, .n 1020), (1, 3, .w [.aq 1020, .aq 1020, .aq 1020, .aq 1020, .aq 1020, .aq 1020, .aq 1020, .aq 1020]), (6, 1, .c blfC [] []), (7, 1, .c (pkkC 34) [] []), (11, 1, .c blfC [] []), (12, 3, .c txfC [0] [0]), (12, 4, .n 12050), (12, 5, .o (apC 9 1 16) [3] [3]), (13, 1, .c blfC [] []), (14, 1, .c mstC [0] [0]), (15, 4, .c vlC [0] [0]), (15, 5, .n 15060), (15, 6, .o (apC 141 8 104) [4] [4]), (16, 1, .c pkfC [] []), (17, 3, .q [.ex 0 (.int .i64)]), (17, 7, .w [.aq 0]), (18, 1, .w [.aq 5, .aq 5, .aq 5, .aq 5, .aq 5, .aq 5, .aq 5, .aq 5]), (19, 1, .c mstC [0] [0])]) [(5, 3, OH.q [LH.aq (0 : Nat)]), (5, 7, OH.w [LH.aq (0 : Nat)]), (12, 1, OH.q [LH.aq (2 : Nat)]), (12, 7, OH.w [LH.aq (2 : Nat)]), (15, 1, OH.q [LH.aq (2 : Nat)]), (15, 8, OH.w [LH.aq (2 : Nat)]), (18, 0, OH.q [LH.aq (2 : Nat), LH.aq (2 : Nat), LH.aq (2 : Nat), LH.aq (2 : Nat), LH.aq (2 : Nat), LH.aq (2 : Nat), LH.aq (2 : Nat), LH.aq (2 : Nat)])] mnInv fo_i fo_o [LH.aq 5, LH.aq 5, LH.aq 5, LH.aq 5, LH.aq 5, LH.aq 5, LH.aq 5, LH.aq 5] mn_vc
end
section
open Go
set_option maxHeartbeats 1000000
structure VoX where
  k : RdK
  b : Nat
  w : ByteArray
  i : Nat
  l : KVs
  j : Nat
abbrev voC : Con where
  X := VoX
  Y := MnY
  args x := [.pointer (some ⟨x.b, 0, none⟩), .int .i64 0]
  pre x := [jrA x.b x.w x.i]
  cond x := (x.w.size ≤ 1048576 ∧ x.i ≤ 1048570 ∧ x.k.ok ∧ ObAt x.k x.w (x.i + 1) x.l x.j ∧ x.l.length ≤ 1000000) ∧ jpk x.w x.i = 123 ∧ x.j ≤ 1048576 ∧ isBk (jpk x.w x.j) = false
  rdc x F := x.k.K.rd F ∧ Utf F
  rel x y := y.ok x.l
  val _ y := .returned (mnV y)
  post x y := [jrA x.b x.w x.j, y.kr.A, y.vr.A]
  rmono x _ _ hs h := ⟨x.k.K.mono h.1 hs, h.2.sub hs⟩
abbrev q385 (x : VoX) : List Value := [fo_vp (some ⟨x.b, 0, none⟩)]
abbrev q355 (x : VoX) (F : Atom) (j g : Nat) := [(0, fo_cl x.b [fo_vs x.w, fo_vi ↑x.i] 138), (1, F), (1000, fo_cl j q3 141), (2001, fo_cl g q3 141)]
abbrev q25 (c : MnY) : List Value := [fo_vi 0, float f64 0, fo_vs ⟨#[]⟩, fo_vi 0, fo_vb false, fo_vl c.kr.a c.kr.n c.kr.cap, fo_vl c.vr.a c.vr.n c.vr.cap, fo_vb true]
theorem vo_vc (x : VoX) (F : Atom) (hc : voC.cond x) (hr : voC.rdc x F) :
 ∀(j : Nat), T97 (q385 x) (fo_aR [(0, fo_cl x.b [fo_vs x.w, fo_vi ↑x.i] 138), (1, F), (1000, fo_cl j q3 141)] []) (λi h => ∀(g : Nat), fo_s5 g (fo_sm g 5 ∧ fo_sm g 6 ∧ fo_sm g 7 ∧ fo_C2 83 (pkkC (123 : Int)) (λf => f.w.size ≤ 1048576 ∧ f.i ≤ 1048576 ∧ jpk f.w f.i = 123) JrIn (q385 x) (fo_aR (q355 x F j g) []) (λf e => fo_rI ((0 : Int) + (1 : Int)) ∧ fo_C4 127 mnC (λd => d.w.size ≤ 1048576 ∧ d.i ≤ 1048570 ∧ d.k.ok ∧ ObAt d.k d.w (d.i + 1) d.l d.j ∧ List.length d.l ≤ 1000000) (λd rr => d.k.K.3 rr ∧ Utf rr) (λd c => MnY.ok d.l c) [fo_vp (some ⟨x.b, 0, none⟩), fo_vb ((123 : Int) == (91 : Int)), fo_vi ((0 : Int) + (1 : Int))] [fo_cl x.b [fo_vs x.w, fo_vi ↑x.i] 138] (fo_aR (q355 x F j g) [0]) (λd c => fo_s5 g (fo_sm g 5 ∧ fo_sm g 6 ∧ fo_sm g 7 ∧ T97 (q385 x) (fo_aR [(0, fo_cl d.b [fo_vs d.w, fo_vi ↑d.j] 138), (1, F), (1000, fo_cl j q3 141), (2001, fo_cl g (q25 c) 141), (8051, c.kr.A), (8052, c.vr.A)] []) (λb a => fo_s5 g (fo_sm g 5 ∧ fo_sm g 6 ∧ fo_sm g 7 ∧ fo_s5 j (fo_sm j 5 ∧ fo_sm j 6 ∧ fo_sm j 7 ∧ fo_s5 j (fo_sm j 5 ∧ fo_sm j 6 ∧ fo_sm j 7 ∧ Done voC x F (fo_rt (agg ⟨q25 c⟩)) [(0, fo_cl d.b [fo_vs d.w, fo_vi ↑d.j] 138), (1, F), (1000, fo_cl j (q25 c) 141), (2001, fo_cl g (q25 c) 141), (8051, c.kr.A), (8052, c.vr.A)]))))))))) := by
  delta T97 q385 q3 q355 q25 fo_aR fo_sm fo_rI fo_s5 fo_C2 fo_C4 fo_vi fo_vs fo_vb fo_vp fo_vl fo_cl fo_rt
  obtain ⟨⟨h1, h2, hk, hob, hl⟩, h3, h4, h5⟩ := hc
  obtain ⟨hr, hu⟩ := hr
  have hr : x.k.K.rd F := hr
  exact λb => ⟨blf_ok, rfl, ⟨x.b, x.w, x.i, ⟨#[]⟩, 0⟩, rfl, rfl, ⟨h1, by dsimp only; omega, by rw [show jpk x.w x.i = 123 from h3] <;> rfl⟩, JrIn.sub (sub_rest 0 (by simp) rfl) (.jr ⟨x.b, x.w, x.i, ⟨#[]⟩, 0⟩), λ_ _ b1 => ⟨⟨rfl, rfl⟩, ⟨rfl, rfl⟩, ⟨rfl, rfl⟩, ⟨rfl, rfl⟩, ⟨rfl, rfl⟩, ⟨rfl, rfl⟩, ⟨rfl, rfl⟩, ⟨rfl, rfl⟩, pkk_ok, rfl, ⟨x.b, x.w, x.i, ⟨#[]⟩, 0⟩, rfl, rfl, ⟨h1, by dsimp only; omega, h3⟩, JrIn.sub (sub_rest 0 (by simp) rfl) (.jr ⟨x.b, x.w, x.i, ⟨#[]⟩, 0⟩), λ_ _ => ⟨⟨by omega, by omega⟩, mn_ok, rfl, ⟨x.k, x.b, x.w, x.i, 1, x.l, x.j⟩, rfl, rfl, ⟨h1, h2, hk, hob, hl⟩, ⟨x.k.K.mono hr (sub_rest 1 (by simp) rfl), Utf.rest (j := 1) (by simp) hu⟩, λy hy => ⟨⟨rfl, rfl⟩, ⟨rfl, rfl⟩, ⟨rfl, rfl⟩, ⟨rfl, rfl⟩, ⟨rfl, rfl⟩, ⟨rfl, rfl⟩, ⟨rfl, rfl⟩, ⟨rfl, rfl⟩, blf_ok, rfl, ⟨x.b, x.w, x.j, ⟨#[]⟩, 0⟩, rfl, rfl, ⟨h1, h4, h5⟩, JrIn.sub (sub_rest 0 (by simp) rfl) (.jr ⟨x.b, x.w, x.j, ⟨#[]⟩, 0⟩), λ_ _ => ⟨⟨rfl, rfl⟩, ⟨rfl, rfl⟩, ⟨rfl, rfl⟩, ⟨rfl, rfl⟩, ⟨rfl, rfl⟩, ⟨rfl, rfl⟩, ⟨rfl, rfl⟩, ⟨rfl, rfl⟩, ⟨rfl, rfl⟩, ⟨rfl, rfl⟩, ⟨rfl, rfl⟩, ⟨rfl, rfl⟩, ⟨rfl, rfl⟩, ⟨rfl, rfl⟩, ⟨rfl, rfl⟩, ⟨rfl, rfl⟩, ⟨rfl, rfl⟩, ⟨rfl, rfl⟩, ⟨rfl, rfl⟩, ⟨rfl, rfl⟩, ⟨rfl, rfl⟩, ⟨rfl, rfl⟩, ⟨rfl, rfl⟩, ⟨rfl, rfl⟩, y, hy, rfl, Ent.pick [0, 8051, 8052, 1] rfl rfl⟩⟩⟩⟩⟩
theorem vo_ok : fo_k 82 voC := fo 57 Tryz.func82 (λ_ _ => [(0, 0, .n 1000), (1, 1, .c blfC [] []), (2, 1, .n 2001), (2, 2, .w [.aq 2001, .aq 2001, .aq 2001, .aq 2001, .aq 2001, .aq 2001, .aq 2001, .aq 2001]), (3, 1, .c (pkkC 123) [] []), (8, 5, .c mnC [0] [0, 8051, 8052]), (8, 6, .w [.aq 2001, .aq 2001, .aq 2001, .aq 2001, .aq 2001, .aq 2001, .aq 2001, .aq 2001]), (17, 1, .c blfC [] []), (18, 1, .w [.aq 1000, .aq 1000, .aq 1000, .aq 1000, .aq 1000, .aq 1000, .aq 1000, .aq 1000])]) [(18, 0, OH.q [LH.aq (2001 : Nat), LH.aq (2001 : Nat), LH.aq (2001 : Nat), LH.aq (2001 : Nat), LH.aq (2001 : Nat), LH.aq (2001 : Nat), LH.aq (2001 : Nat), LH.aq (2001 : Nat)])] fo_i fo_i fo_o [LH.aq 1000, LH.aq 1000, LH.aq 1000, LH.aq 1000, LH.aq 1000, LH.aq 1000, LH.aq 1000, LH.aq 1000] vo_vc
structure BldX where
  v : Pv
  h : Option Addr
abbrev bldC : Con where
  X := BldX
  Y := Unit
  args x := [lfV x.v, .pointer x.h]
  pre _ := []
  cond _ := True
  rdc _ _ := True
  rel _ _ := True
  val x _ := .returned x.v.v
  post _ _ := []
abbrev q197 (x : BldX) : List Value := [fo_vi x.v.k, float f64 x.v.f, fo_vs x.v.s, fo_vi 0]
theorem bld_vc (x : BldX) (F : Atom) (hc : bldC.cond x) (hr : bldC.rdc x F) :
 ∀(b a : Nat), fo_sm b 7 ∧ fo_sm b 0 ∧ fo_sm b 1 ∧ fo_sm b 2 ∧ fo_sm b 3 ∧ fo_sm a 0 ∧ fo_sm a 1 ∧ fo_sm a 2 ∧ fo_sm a 3 ∧ fo_sm a 0 ∧ fo_sm a 1 ∧ fo_sm a 2 ∧ fo_sm a 3 ∧ Done bldC x F (fo_rt (agg ⟨q197 x⟩)) [(0, F), (1000, fo_cl b [fo_vi x.v.k, float f64 x.v.f, fo_vs x.v.s, fo_vi 0, fo_vb false, fo_vl none 0 0, fo_vl none 0 0, fo_vb false] 141), (1010, fo_cl a (q197 x) 30)] := by
  delta q197 fo_sm fo_vi fo_vs fo_vb fo_vl fo_cl fo_rt
  exact λ_ _ => ⟨⟨rfl, rfl⟩, ⟨rfl, rfl⟩, ⟨rfl, rfl⟩, ⟨rfl, rfl⟩, ⟨rfl, rfl⟩, ⟨rfl, rfl⟩, ⟨rfl, rfl⟩, ⟨rfl, rfl⟩, ⟨rfl, rfl⟩, ⟨rfl, rfl⟩, ⟨rfl, rfl⟩, ⟨rfl, rfl⟩, ⟨rfl, rfl⟩, (), fo_tv, rfl, Ent.pick [0] rfl rfl⟩
theorem bld_ok : fo_k 85 bldC := fo 72 Tryz.func85 (λ_ _ => [(0, 0, .n 1000), (0, 1, .n 1010), (2, 2, .w [.aq 1010, .aq 1010, .aq 1010, .aq 1010])]) [(1, 1, OH.q [LH.aq (1000 : Nat)]), (2, 1, OH.q [LH.aq (1000 : Nat), LH.aq (1000 : Nat), LH.aq (1000 : Nat), LH.aq (1000 : Nat)])] fo_i fo_i fo_o [LH.aq 1010, LH.aq 1010, LH.aq 1010, LH.aq 1010] bld_vc
abbrev chkC : Con where
  X := Unit
  Y := Unit
  args _ := [.int .i64 0]
  pre _ := []
  cond _ := True
  rdc _ _ := True
  rel _ _ := True
  val _ _ := .returned (.tuple #[])
  post _ _ := []
theorem chk_vc (x : PUnit) (F : Atom) (hc : chkC.cond x) (hr : chkC.rdc x F) :
 Done chkC x F q73 [(0, F)] := by
  delta q73 fo_rt
  exact ⟨(), fo_tv, rfl, Ent.pick [0] rfl rfl⟩
theorem chk_ok : fo_k 133 chkC := fo 6 Tryz.func133 (λ_ _ => []) [] fo_i fo_i fo_o [] chk_vc
def objV : Value := .agg #[.int .i64 5, .float .f64 0, .string ⟨#[]⟩, .int .i64 0]
abbrev objC : Con where
  X := Unit
  Y := Unit
  args _ := [.int .i64 0]
  pre _ := []
  cond _ := True
  rdc _ _ := True
  rel _ _ := True
  val _ _ := .returned objV
  post _ _ := []
def objOv2 (_x : Unit) (_F : Atom) : List (Nat × Nat × OH) := [(0, 0, .n 1000), (1, 2, .w [.aq 1000, .aq 1000, .aq 1000, .aq 1000])]
theorem obk_vc (x : PUnit) (F : Atom) (hc : objC.cond x) (hr : objC.rdc x F) :
 ∀(a : Nat), fo_sm a 0 ∧ fo_sm a 1 ∧ fo_sm a 2 ∧ fo_sm a 3 ∧ fo_sm a 0 ∧ fo_sm a 1 ∧ fo_sm a 2 ∧ fo_sm a 3 ∧ Done objC x F (fo_rt (agg ⟨q14⟩)) [(0, F), (1000, fo_cl a q14 30)] := by
  delta q14 fo_sm fo_vi fo_vs fo_cl fo_rt
  exact λb => ⟨⟨rfl, rfl⟩, ⟨rfl, rfl⟩, ⟨rfl, rfl⟩, ⟨rfl, rfl⟩, ⟨rfl, rfl⟩, ⟨rfl, rfl⟩, ⟨rfl, rfl⟩, ⟨rfl, rfl⟩, (), fo_tv, rfl, Ent.pick [0] rfl rfl⟩
theorem obk_ok : fo_k 134 objC := fo 5 Tryz.func134 objOv2 [] fo_i fo_i fo_o [LH.aq 1000, LH.aq 1000, LH.aq 1000, LH.aq 1000] obk_vc
def mndL (y : MnY) : List Value := [.int .i64 0, .float .f64 0, .string ⟨#[]⟩, .int .i64 0, .bool false, .slice y.kr.a y.kr.n y.kr.cap, .slice y.vr.a y.vr.n y.vr.cap, .bool true]
def kvP (l : KVs) : KVs := l.foldl (λa p => putV p.1 p.2 a) []
def pvL (v : Pv) : List Value := [.int .i64 v.k, .float .f64 v.f, .string v.s, .int .i64 0]
def pvsL (l : KVs) : List Value := l.flatMap λp => pvL p.2
theorem flq_get {α : Type} {f : α → List Value} {k : Nat} (hf : ∀ a, (f a).length = k) : ∀ {l : List α} {i j : Nat} {p : α}, l[i]? = some p → j < k → (l.flatMap f)[i * k + j]? = (f p)[j]?
  | a :: l, 0, j, p, h, hj => by
    have e : a = p := by simpa using h
    rw [List.flatMap_cons, Nat.zero_mul, fo_za, fo_gl (by rw [hf]; exact hj), e]
  | a :: l, i + 1, j, p, h, hj => by
    have h2 : l[i]? = some p := by simpa using h
    rw [List.flatMap_cons, fo_gr2 (by rw [hf, Nat.succ_mul]; omega), hf, show (i + 1) * k + j - k = i * k + j by rw [Nat.succ_mul]; omega]
    exact flq_get hf h2 hj
  | [], i, j, p, h, hj => by simp at h
theorem flat_len {α : Type} {f : α → List Value} {k : Nat} (hf : ∀ a, (f a).length = k) : ∀ l : List α, (l.flatMap f).length = l.length * k
  | [] => by simp
  | a :: l => by rw [List.flatMap_cons, fo_la, hf, flat_len hf l, fo_lc, Nat.succ_mul, Nat.add_comm]
theorem lkN {k : Nat} {f : ByteArray × Pv → List Value} {F : Atom} {c o i j : Nat} {l : KVs} {q : ByteArray × Pv} {v : Value} (hf : ∀ a, (f a).length = k) (h : Srcd F (some ⟨c, o, none⟩) (l.flatMap f)) (hq : l[i]? = some q) (hj : j < k) (e : (f q)[j]? = some v) : Look F ⟨c, o + (i : Int).toNat * k + j, none⟩ v := by
  have := Srcd.look h ((flq_get hf hq hj).trans e)
  rw [fo_tn, Nat.add_assoc]
  exact this
theorem lk1 {F : Atom} {c o i j : Nat} {l : KVs} {q : ByteArray × Pv} {v : Value} (h : Srcd F (some ⟨c, o, none⟩) (lfsL l)) (hq : l[i]? = some q) (hj : j < 8) (e : (lfL q.2)[j]? = some v) : Look F ⟨c, o + (i : Int).toNat * 8 + j, none⟩ v := lkN (f := λp => lfL p.2) (λ_ => rfl) h hq hj e
theorem lk0 {F : Atom} {c o i : Nat} {l : KVs} {q : ByteArray × Pv} {v : Value} (h : Srcd F (some ⟨c, o, none⟩) (lfsL l)) (hq : l[i]? = some q) (hj : 0 < 8) (e : (lfL q.2)[0]? = some v) : Look F ⟨c, o + (i : Int).toNat * 8, none⟩ v := lk1 (j := 0) h hq hj e
theorem lv1 {F : Atom} {c o i j : Nat} {l : KVs} {q : ByteArray × Pv} {v : Value} (h : Srcd F (some ⟨c, o, none⟩) (pvsL l)) (hq : l[i]? = some q) (hj : j < 4) (e : (pvL q.2)[j]? = some v) : Look F ⟨c, o + (i : Int).toNat * 4 + j, none⟩ v := lkN (f := λp => pvL p.2) (λ_ => rfl) h hq hj e
theorem lv0 {F : Atom} {c o i : Nat} {l : KVs} {q : ByteArray × Pv} {v : Value} (h : Srcd F (some ⟨c, o, none⟩) (pvsL l)) (hq : l[i]? = some q) (hj : 0 < 4) (e : (pvL q.2)[0]? = some v) : Look F ⟨c, o + (i : Int).toNat * 4, none⟩ v := lv1 (j := 0) h hq hj e
theorem pvL_one (v : Pv) : ∀ u ∈ pvL v, u.oneCell' = true := by
  intro u hu
  simp only [pvL, List.mem_cons, List.not_mem_nil, or_false] at hu
  rcases hu with rfl | rfl | rfl | rfl <;> rfl
theorem kvP_take {l : KVs} {i : Nat} {p : ByteArray × Pv} (h : l[i]? = some p) : kvP (l.take (i + 1)) = putV p.1 p.2 (kvP (l.take i)) := by
  unfold kvP
  rw [List.take_add_one, h, Option.toList_some, List.foldl_append] <;> rfl
theorem kvP_len (l : KVs) : (kvP l).length ≤ l.length := by
  have : ∀ (l a : KVs), (l.foldl (λa p => putV p.1 p.2 a) a).length ≤ a.length + l.length := by
    intro l
    induction l with
    | nil => intro a; exact fo_nr _
    | cons p l ih =>
      intro a
      rw [List.foldl_cons]
      have h1 := ih (putV p.1 p.2 a)
      have h2 := putT_len p.1 p.2 a
      rw [fo_lc]
      omega
  have h := this l []
  rw [List.length_nil, fo_za] at h
  exact h
structure BudX where
  b : Nat
  l : KVs
  y : MnY
abbrev budC : Con where
  X := BudX
  Y := Int
  args x := [mnV x.y, .pointer (some ⟨x.b, 0, none⟩)]
  pre x := [ho0 x.b 10000]
  cond x := x.l.length ≤ 9990 ∧ (∀ p ∈ x.l, p.1.size ≤ 1048576 ∧ p.2.ok) ∧ x.y.ok x.l
  rdc x F := Srcd F x.y.kr.a (ksL x.l) ∧ Srcd F x.y.vr.a (lfsL x.l)
  rel _ _ := True
  val _ _ := .returned objV
  post x y := [hoA x.b y (kvP x.l)]
  rmono _ _ _ hs h := ⟨h.1.sub hs, h.2.sub hs⟩
structure BudS where
  n : Nat
  r : Nat
  i : Nat
  left : Int
  v : Row
def budInv (x : BudX) (F : Atom) : Nat → Option Inv := fun
  | 0 => some { X := BudS, P := λd => d.i ≤ x.l.length ∧ IsRow 30 4 (pvsL (x.l.take d.i)) d.v ∧ d.v.n = d.i, mu := λd => x.l.length - d.i, lv := λd => [(1, .pointer (some ⟨x.b, 0, none⟩)), (2, .pointer (some ⟨d.n, 0, none⟩)), (4, .pointer (some ⟨d.r, 0, none⟩)), (5, .slice d.v.a d.v.n d.v.cap), (20, .slice x.y.vr.a x.y.vr.n x.y.vr.cap), (21, .int .i64 x.l.length), (22, .int .i64 d.i)], st := λd => [ho0 x.b 10000, F, .cells d.n (mndL x.y) 141, .cells d.r [.int .i64 0, .float .f64 0, .string ⟨#[]⟩, .int .i64 0] 30, d.v.A] }
  | 2 => some { X := BudS, P := λd => d.i ≤ x.l.length ∧ IsRow 30 4 (pvsL x.l) d.v ∧ 9999 ≤ d.left + d.i ∧ d.left ≤ 10000, mu := λd => x.l.length - d.i, lv := λd => [(1, .pointer (some ⟨x.b, 0, none⟩)), (2, .pointer (some ⟨d.n, 0, none⟩)), (4, .pointer (some ⟨d.r, 0, none⟩)), (10, .int .i64 0), (52, .slice d.v.a d.v.n d.v.cap), (53, .int .i64 x.l.length), (54, .int .i64 d.i)], st := λd => [hoA x.b d.left (kvP (x.l.take d.i)), F, .cells d.n (mndL x.y) 141, .cells d.r [.int .i64 0, .float .f64 0, .string ⟨#[]⟩, .int .i64 0] 30, d.v.A] }
  | _ => none
def budCut (x : BudX) (F : Atom) : Nat → Option Inv := fun
  | 9 => some { X := BudS, P := λd => IsRow 30 4 (pvsL x.l) d.v ∧ d.v.n = x.l.length, mu := λ_ => 0, lv := λd => [(1, .pointer (some ⟨x.b, 0, none⟩)), (2, .pointer (some ⟨d.n, 0, none⟩)), (4, .pointer (some ⟨d.r, 0, none⟩)), (5, .slice d.v.a d.v.n d.v.cap)], st := λd => [ho0 x.b 10000, F, .cells d.n (mndL x.y) 141, .cells d.r [.int .i64 0, .float .f64 0, .string ⟨#[]⟩, .int .i64 0] 30, d.v.A] }
  | _ => none
def q207 (a : BudS) (x : BudX) := a.i ≤ List.length x.l ∧ IsRow 30 4 (pvsL (List.take a.i x.l)) a.v ∧ a.v.n = a.i
abbrev q151 (x : BudX) : Option Addr := some ⟨x.b, 0, none⟩
abbrev q213 (a : BudS) : Option Addr := some ⟨a.n, 0, none⟩
abbrev q214 (a : BudS) : Option Addr := some ⟨a.r, 0, none⟩
abbrev q10 (x : BudX) : List Value := [fo_vi 0, float f64 0, fo_vs ⟨#[]⟩, fo_vi 0, fo_vb false, fo_vl x.y.kr.a x.y.kr.n x.y.kr.cap, fo_vl x.y.vr.a x.y.vr.n x.y.vr.cap, fo_vb true]
abbrev q115 (x : BudX) (F : Atom) (a : BudS) := [(0, fo_cl x.b q45 60), (1, F), (2, fo_cl a.n (q10 x) 141), (3, fo_cl a.r q7 30), (4, a.v.A)]
def T101 (aa : Atom) (ad : Addr) (k0 : Nat → Prop) := ∃ (z0 : Nat), Look aa ad (float f64 z0) ∧ k0 z0
abbrev q215 (k : Int) (j : Nat) (i : ByteArray) (h : Int) : List Value := [fo_vi k, float f64 j, fo_vs i, fo_vi h, fo_vb false, fo_vl none 0 0, fo_vl none 0 0, fo_vb false]
def T102 := fo_C0 133 chkC
def q191 (a : BudS) (x : BudX) := a.i ≤ List.length x.l ∧ IsRow 30 4 (pvsL x.l) a.v ∧ 9999 ≤ a.left + a.i ∧ a.left ≤ 10000
abbrev q203 (a : BudS) (x : BudX) (F : Atom) := [(0, fo_pr (Ex.rest (hoR (kvP (List.take a.i x.l))) (hoB x.b a.left (kvP (List.take a.i x.l))))), (1, F), (2, fo_cl a.n (q10 x) 141), (3, fo_cl a.r q7 30), (4, a.v.A)]
theorem bud_vc (x : BudX) (F : Atom) (hc : budC.cond x) (hr : budC.rdc x F) :
 ∀(w v : Nat), fo_sm w 7 ∧ (fo_sm w 6 ∧ (∃(a : BudS), q207 a x ∧ (fo_vp (q151 x) = fo_vp (q151 x) ∧ fo_vp (q13 w) = fo_vp (q213 a) ∧ fo_vp (q13 v) = fo_vp (q214 a) ∧ fo_vl none 0 0 = fo_vl a.v.a a.v.n a.v.cap ∧ fo_vl x.y.vr.a x.y.vr.n x.y.vr.cap = fo_vl x.y.vr.a x.y.vr.n x.y.vr.cap ∧ fo_vi ↑x.y.vr.n = fo_vi (↑(List.length x.l) : Int) ∧ fo_vi 0 = fo_vi ↑a.i ∧ True) ∧ Ent [(0, fo_cl x.b q45 60), (1, F), (1000, fo_cl w (q10 x) 141), (1010, fo_cl v q7 30)] (q115 x F a)) ∧ fo_vA λ(n : BudS) _ => q207 n x → fo_Bd ((n.i : Int) < (↑(List.length x.l) : Int)) (QOpOk Tryz.prog (opIn Tryz.f85 6 0) (ixQ 8) ∧ ∃(l : IxQX), [fo_vl x.y.vr.a x.y.vr.n x.y.vr.cap, fo_vi ↑n.i] = (q116 l) ∧ (0 ≤ l.n ∧ l.n < l.len) ∧ T59 F ⟨l.b, l.o + l.n.toNat * 8, none⟩ (λk => T101 F ⟨l.b, l.o + l.n.toNat * 8 + 1, none⟩ (λj => T25 F ⟨l.b, l.o + l.n.toNat * 8 + 2, none⟩ (λi => T59 F ⟨l.b, l.o + l.n.toNat * 8 + 3, none⟩ (λh => Look F ⟨l.b, l.o + l.n.toNat * 8 + 4, none⟩ (fo_vb false) ∧ Look F ⟨l.b, l.o + l.n.toNat * 8 + 5, none⟩ q261 ∧ Look F ⟨l.b, l.o + l.n.toNat * 8 + 6, none⟩ q261 ∧ Look F ⟨l.b, l.o + l.n.toNat * 8 + 7, none⟩ (fo_vb false) ∧ ∀(g : Nat), fo_s5 g (fo_sm g 5 ∧ fo_sm g 6 ∧ fo_sm g 7 ∧ fo_s5 g (fo_sm g 5 ∧ fo_sm g 6 ∧ fo_sm g 7 ∧ fo_C0 85 bldC [agg ⟨q215 k j i h⟩, fo_vp (q151 x)] (λf e => ∀(d : Nat), fo_O4 (opIn Tryz.f85 7 5) (apC (30 : TypeId) 4 40) (λc => IsRow 30 4 c.cs c.r ∧ c.ys.length = c.m * 4 ∧ q134 c ∧ (c.r.n + c.m) * 40 ≤ 140737488355328 ∧ c.r.n + c.m ≤ 9223372036854775807 ∧ q247 c) (λc rr => q318 c rr) (λc b => IsRow 30 4 (c.cs ++ c.ys) b ∧ b.n = c.r.n + c.m ∧ (c.m = 0 → b = c.r)) [fo_vl n.v.a n.v.n n.v.cap, fo_vl (q13 d) 1 1] [n.v.A] (fo_aR [(0, fo_cl x.b q45 60), (1, F), (2, fo_cl n.n (q10 x) 141), (3, fo_cl n.r q7 30), (4, n.v.A), (6020, fo_cl g (q215 k j i h) 141), (7040, fo_cl d (q197 f) 30)] [4]) (λc b => fo_rI ((n.i : Int) + 1) ∧ ∃(a : BudS), q207 a x ∧ (fo_vp (q151 x) = fo_vp (q151 x) ∧ fo_vp (q213 n) = fo_vp (q213 a) ∧ fo_vp (q214 n) = fo_vp (q214 a) ∧ fo_vl b.a b.n b.cap = fo_vl a.v.a a.v.n a.v.cap ∧ fo_vl x.y.vr.a x.y.vr.n x.y.vr.cap = fo_vl x.y.vr.a x.y.vr.n x.y.vr.cap ∧ fo_vi (↑(List.length x.l) : Int) = fo_vi (↑(List.length x.l) : Int) ∧ fo_vi ((n.i : Int) + 1) = fo_vi ↑a.i ∧ True) ∧ Ent [(0, fo_cl x.b q45 60), (1, F), (2, fo_cl n.n (q10 x) 141), (3, fo_cl n.r q7 30), (4, b.A), (6020, fo_cl g (q215 k j i h) 141), (7040, fo_cl d (q197 f) 30)] (q115 x F a) ∧ List.length x.l - a.i < List.length x.l - n.i))))))))) (∃(a : BudS), (IsRow 30 4 (pvsL x.l) a.v ∧ a.v.n = List.length x.l) ∧ (fo_vp (q151 x) = fo_vp (q151 x) ∧ fo_vp (q213 n) = fo_vp (q213 a) ∧ fo_vp (q214 n) = fo_vp (q214 a) ∧ fo_vl n.v.a n.v.n n.v.cap = fo_vl a.v.a a.v.n a.v.cap ∧ True) ∧ Ent (q115 x F n) (q115 x F a))) ∧ fo_vA λ(u : BudS) _ => (IsRow 30 4 (pvsL x.l) u.v ∧ u.v.n = List.length x.l) → fo_sm u.n 4 ∧ T81 [fo_vp (q151 x), fo_vi (-1)] [fo_cl x.b q45 60] (λs r => T102 [fo_vi 0] (λq p => (∃(a : BudS), q191 a x ∧ (fo_vp (q151 x) = fo_vp (q151 x) ∧ fo_vp (q213 u) = fo_vp (q213 a) ∧ fo_vp (q214 u) = fo_vp (q214 a) ∧ fo_vi 0 = fo_vi 0 ∧ fo_vl u.v.a u.v.n u.v.cap = fo_vl a.v.a a.v.n a.v.cap ∧ fo_vi ↑u.v.n = fo_vi (↑(List.length x.l) : Int) ∧ fo_vi 0 = fo_vi ↑a.i ∧ True) ∧ Ent [(0, fo_pr (Ex.rest (hoR []) (hoB s.b (s.left - 1) []))), (1, F), (2, fo_cl u.n (q10 x) 141), (3, fo_cl u.r q7 30), (4, u.v.A)] (q203 a x F)) ∧ fo_vA λ(o : BudS) _ => q191 o x → fo_Bd ((o.i : Int) < (↑(List.length x.l) : Int)) (QOpOk Tryz.prog (opIn Tryz.f85 17 1) (ixQ 4) ∧ ∃(m : IxQX), [fo_vl o.v.a o.v.n o.v.cap, fo_vi ↑o.i] = (q116 m) ∧ (0 ≤ m.n ∧ m.n < m.len) ∧ T59 o.v.A ⟨m.b, m.o + m.n.toNat * 4, none⟩ (λl => T101 o.v.A ⟨m.b, m.o + m.n.toNat * 4 + 1, none⟩ (λk => T25 o.v.A ⟨m.b, m.o + m.n.toNat * 4 + 2, none⟩ (λj => T59 o.v.A ⟨m.b, m.o + m.n.toNat * 4 + 3, none⟩ (λi => ∀(h : Nat), fo_sm h 0 ∧ fo_sm h 1 ∧ fo_sm h 2 ∧ fo_sm h 3 ∧ true = true ∧ fo_sm o.n 5 ∧ T47 (opIn Tryz.f85 18 5) [fo_vl x.y.kr.a x.y.kr.n x.y.kr.cap, fo_vi ↑o.i] (λg => T25 F ⟨g.b, g.o + g.n.toNat * 1, none⟩ (λf => fo_sm h 0 ∧ fo_sm h 1 ∧ fo_sm h 2 ∧ fo_sm h 3 ∧ T83 [fo_vp (q151 x), fo_vi 0, fo_vs f, agg ⟨[fo_vi l, float f64 k, fo_vs j, fo_vi i]⟩] [fo_pr (Ex.rest (hoR (kvP (List.take o.i x.l))) (hoB x.b o.left (kvP (List.take o.i x.l))))] (λe d => T102 [fo_vi 0] (λc b => fo_rI ((o.i : Int) + 1) ∧ ∃(a : BudS), q191 a x ∧ (fo_vp (q151 x) = fo_vp (q151 x) ∧ fo_vp (q213 o) = fo_vp (q213 a) ∧ fo_vp (q214 o) = fo_vp (q214 a) ∧ fo_vi 0 = fo_vi 0 ∧ fo_vl o.v.a o.v.n o.v.cap = fo_vl a.v.a a.v.n a.v.cap ∧ fo_vi (↑(List.length x.l) : Int) = fo_vi (↑(List.length x.l) : Int) ∧ fo_vi ((o.i : Int) + 1) = fo_vi ↑a.i ∧ True) ∧ Ent [(0, fo_pr (Ex.rest (hoR (putV e.k e.v e.l)) (hoB e.b (lftV e.k e.l e.left) (putV e.k e.v e.l)))), (1, F), (2, fo_cl o.n (q10 x) 141), (3, fo_cl o.r q7 30), (4, o.v.A), (17030, fo_cl h [fo_vi l, float f64 k, fo_vs j, fo_vi i] 30)] (q203 a x F) ∧ List.length x.l - a.i < List.length x.l - o.i))))))))) (fo_C0 134 objC [fo_vi 0] (λb a => fo_sm o.r 0 ∧ fo_sm o.r 1 ∧ fo_sm o.r 2 ∧ fo_sm o.r 3 ∧ fo_sm o.r 0 ∧ fo_sm o.r 1 ∧ fo_sm o.r 2 ∧ fo_sm o.r 3 ∧ Done budC x F (fo_rt (agg ⟨q14⟩)) [(0, fo_pr (Ex.rest (hoR (kvP (List.take o.i x.l))) (hoB x.b o.left (kvP (List.take o.i x.l))))), (1, F), (2, fo_cl o.n (q10 x) 141), (3, fo_cl o.r q14 30), (4, o.v.A)])))) := by
  delta q207 q151 q13 q213 q214 q45 q10 q7 q115 q116 T59 T101 T25 q261 q215 q134 q247 q318 q197 T81 T102 q191 q203 T47 T83 q14 fo_aR fo_sm fo_rI fo_s5 fo_C0 fo_C3 fo_O4 fo_vi fo_vs fo_vb fo_vp fo_vl fo_cl fo_pr fo_Bd fo_rt fo_vA
  obtain ⟨hl, hp, hy⟩ := hc
  obtain ⟨hkk, hv⟩ := hr
  have hkk : Srcd F x.y.kr.a (ksL x.l) := hkk
  have hv : Srcd F x.y.vr.a (lfsL x.l) := hv
  have hkn := hy.kn
  have hvn := hy.vn
  intro b b1
  refine ⟨⟨rfl, rfl⟩, ⟨⟨rfl, rfl⟩, ⟨⟨b, b1, 0, 0, nilRow⟩, ⟨fo_zl _, .nil rfl, rfl⟩, ⟨rfl, rfl, rfl, rfl, rfl, by rw [hvn], rfl, fo_tv⟩, Ent.pick [0, 1, 1000, 1010, 999] rfl rfl⟩, ?_⟩, ?_⟩
  · clear b b1
    rintro ⟨n, r, i, _, vr⟩ js ⟨h1, hvr, hn⟩
    dsimp only at h1 hvr hn ⊢
    refine br_decide (λhlt => ?_) (λhge => ?_)
    · have hlt : i < x.l.length := by omega
      obtain ⟨c, o, ha⟩ := hy.v.src.some (by omega)
      rw [ha] at hv ⊢
      obtain ⟨q, hq⟩ : ∃ q, x.l[i]? = some q := ⟨x.l[i], fo_ge hlt⟩
      refine ⟨ixq_ok 8 rfl rfl rfl rfl, ⟨c, o, x.y.vr.n, x.y.vr.cap, i⟩, rfl, ⟨by dsimp only; omega, by dsimp only; omega⟩, q.2.k, ?_, q.2.f, ?_, q.2.s, ?_, 0, ?_, ?_, ?_, ?_, ?_, λb2 => ⟨⟨rfl, rfl⟩, ⟨rfl, rfl⟩, ⟨rfl, rfl⟩, ⟨rfl, rfl⟩, ⟨rfl, rfl⟩, ⟨rfl, rfl⟩, ⟨rfl, rfl⟩, ⟨rfl, rfl⟩, ⟨rfl, rfl⟩, ⟨rfl, rfl⟩, ⟨rfl, rfl⟩, ⟨rfl, rfl⟩, ⟨rfl, rfl⟩, ⟨rfl, rfl⟩, ⟨rfl, rfl⟩, ⟨rfl, rfl⟩, bld_ok, rfl, ⟨q.2, some ⟨x.b, 0, none⟩⟩, rfl, rfl, fo_tv, fo_tv, λ_ _ b3 => ⟨append_ok (P := Tryz.prog) 4 40 rfl rfl rfl rfl rfl rfl rfl (by decide), rfl, ⟨vr, pvsL (x.l.take i), some ⟨b3, 0, none⟩, 1, 1, pvL q.2⟩, rfl, rfl, ⟨hvr, rfl, pvL_one q.2, by dsimp only; omega, by dsimp only; omega, λh => nomatch h⟩, ?_, λv2 hv2 => ?_⟩⟩⟩
      · exact lk0 hv hq (by decide) rfl
      · exact lk1 hv hq (by decide) rfl
      · exact lk1 hv hq (by decide) rfl
      · exact lk1 hv hq (by decide) rfl
      · exact lk1 hv hq (by decide) rfl
      · exact lk1 hv hq (by decide) rfl
      · exact lk1 hv hq (by decide) rfl
      · exact lk1 hv hq (by decide) rfl
      · intro a ha
        cases ha
        exact Seg.rest (j := 7040) (by simp) (Seg.cells (λj u hj => by rw [fo_za]; exact hj))
      · obtain ⟨g1, g2, -⟩ := hv2
        dsimp only at g1 g2
        refine ⟨⟨by omega, by omega⟩, ⟨n, r, i + 1, 0, v2⟩, ⟨hlt, ?_, by dsimp only; omega⟩, ⟨rfl, rfl, rfl, rfl, rfl, rfl, rfl, fo_tv⟩, Ent.pick [0, 1, 2, 3, 4] rfl rfl, by dsimp only; omega⟩
        dsimp only
        rw [List.take_add_one, hq, Option.toList_some]
        unfold pvsL at g1 ⊢
        rw [List.flatMap_append]
        simpa using g1
    · have hi : i = x.l.length := by omega
      rw [hi, List.take_length] at hvr
      exact ⟨⟨n, r, 0, 0, vr⟩, ⟨hvr, by dsimp only; omega⟩, ⟨rfl, rfl, rfl, rfl, fo_tv⟩, Ent.pick [0, 1, 2, 3, 4] rfl rfl⟩
  · clear b b1
    rintro ⟨n, r, _, _, vr⟩ js ⟨hvr, hn⟩
    dsimp only at hvr hn ⊢
    refine ⟨⟨rfl, rfl⟩, plh_ok, rfl, ⟨x.b, 10000⟩, rfl, rfl, ⟨by dsimp only; omega, by dsimp only; omega⟩, fo_tv, λ_ _ => ⟨chk_ok, rfl, (), rfl, rfl, fo_tv, fo_tv, λ_ _ => ⟨⟨⟨n, r, 0, 9999, vr⟩, ⟨fo_zl _, hvr, by dsimp only; omega, by dsimp only; omega⟩, ⟨rfl, rfl, rfl, rfl, rfl, by rw [hn], rfl, fo_tv⟩, Ent.pick [0, 1, 2, 3, 4] rfl rfl⟩, ?_⟩⟩⟩
    clear hvr hn
    rintro ⟨n, r, i, left, vr⟩ js ⟨h1, hvr, h2, h3⟩
    dsimp only at h1 hvr h2 h3 ⊢
    refine br_decide (λhlt => ?_) (λhge => ?_)
    · have hlt : i < x.l.length := by omega
      have hvl := hvr.len
      have hvn2 : vr.n = x.l.length := by
        have : (pvsL x.l).length = x.l.length * 4 := flat_len (f := λp : ByteArray × Pv => pvL p.2) (λ_ => rfl) x.l
        omega
      obtain ⟨c, ha⟩ := hvr.at0 (by omega)
      obtain ⟨c2, o2, ha2⟩ := hy.k.src.some (by omega)
      obtain ⟨q, hq⟩ : ∃ q, x.l[i]? = some q := ⟨x.l[i], fo_ge hlt⟩
      have hp := hp q (fo_mg hq)
      have hs := hvr.srcd
      have hlen := kvP_len (x.l.take i)
      rw [List.length_take] at hlen
      rw [ha] at hs
      rw [ha2] at hkk
      have hkq : (ksL x.l)[i]? = some (.string q.1) := by
        unfold ksL strs
        rw [List.map_map, fo_gm, hq] <;> rfl
      rw [ha, ha2]
      refine ⟨ixq_ok 4 rfl rfl rfl rfl, ⟨c, 0, vr.n, vr.cap, i⟩, rfl, ⟨by dsimp only; omega, by dsimp only; omega⟩, q.2.k, ?_, q.2.f, ?_, q.2.s, ?_, 0, ?_, λb2 => ⟨⟨rfl, rfl⟩, ⟨rfl, rfl⟩, ⟨rfl, rfl⟩, ⟨rfl, rfl⟩, rfl, ⟨rfl, rfl⟩, ixq_ok 1 rfl rfl rfl rfl, ⟨c2, o2, x.y.kr.n, x.y.kr.cap, i⟩, rfl, ⟨by dsimp only; omega, by dsimp only; omega⟩, q.1, ?_, ⟨rfl, rfl⟩, ⟨rfl, rfl⟩, ⟨rfl, rfl⟩, ⟨rfl, rfl⟩, puh_ok, rfl, ⟨x.b, left, kvP (x.l.take i), q.1, q.2⟩, rfl, rfl, ⟨by dsimp only; omega, by dsimp only; omega, hp.1, hp.2, by dsimp only; omega⟩, fo_tv, λ_ _ => ⟨chk_ok, rfl, (), rfl, rfl, fo_tv, fo_tv, λ_ _ => ⟨⟨by omega, by omega⟩, ⟨n, r, i + 1, lftV q.1 (kvP (x.l.take i)) left, vr⟩, ⟨hlt, hvr, ?_, ?_⟩, ⟨rfl, rfl, rfl, rfl, by rw [ha], rfl, rfl, fo_tv⟩, Ent.pick [0, 1, 2, 3, 4] rfl ?_, by dsimp only; omega⟩⟩⟩⟩
      · exact lv0 hs hq (by decide) rfl
      · exact lv1 hs hq (by decide) rfl
      · exact lv1 hs hq (by decide) rfl
      · exact lv1 hs hq (by decide) rfl
      · have := Srcd.look hkk hkq
        dsimp only
        rw [fo_tn, Nat.mul_one]
        exact this
      · show 9999 ≤ lftV q.1 (kvP (x.l.take i)) left + ((i + 1 : Nat) : Int)
        unfold lftV
        cases hasK q.1 (kvP (x.l.take i)) <;> simp only [fo_ct, fo_cf] <;> omega
      · show lftV q.1 (kvP (x.l.take i)) left ≤ 10000
        unfold lftV
        cases hasK q.1 (kvP (x.l.take i)) <;> simp only [fo_ct, fo_cf] <;> omega
      · dsimp only
        rw [kvP_take hq]
        first | rfl | (rw [ha, ha2] <;> rfl) | (rw [ha] <;> rfl)
    · have hi : i = x.l.length := by omega
      rw [hi, List.take_length]
      exact ⟨obk_ok, rfl, (), rfl, rfl, fo_tv, fo_tv, λ_ _ => ⟨⟨rfl, rfl⟩, ⟨rfl, rfl⟩, ⟨rfl, rfl⟩, ⟨rfl, rfl⟩, ⟨rfl, rfl⟩, ⟨rfl, rfl⟩, ⟨rfl, rfl⟩, ⟨rfl, rfl⟩, left, fo_tv, rfl, Ent.pick [0, 1] rfl rfl⟩⟩
theorem bud_ok : fo_k 85 budC := fo 72 Tryz.func85 (λ_ _ => [(0, 0, .n 1000), (0, 1, .n 1010), (6, 0, .qo (ixQ 8)), (6, 1, .q [.ex 1 (.int .i64), .ex 1 (.float .f64), .ex 1 .str, .ex 1 (.int .i64), .ex 1 (.is (.bool false)), .ex 1 (.is (.slice none 0 0)), .ex 1 (.is (.slice none 0 0)), .ex 1 (.is (.bool false))]), (6, 2, .n 6020), (6, 3, .w [.aq 6020, .aq 6020, .aq 6020, .aq 6020, .aq 6020, .aq 6020, .aq 6020, .aq 6020]), (7, 1, .q [.aq 6020, .aq 6020, .aq 6020, .aq 6020, .aq 6020, .aq 6020, .aq 6020, .aq 6020]), (7, 3, .c bldC [] []), (7, 4, .n 7040), (7, 5, .o (apC 30 4 40) [4] [4]), (13, 1, .c plC [0] [0]), (14, 1, .c chkC [] []), (17, 1, .qo (ixQ 4)), (17, 2, .q [.ex 4 (.int .i64), .ex 4 (.float .f64), .ex 4 .str, .ex 4 (.int .i64)]), (17, 3, .n 17030), (17, 5, .w [.aq 17030, .aq 17030, .aq 17030, .aq 17030]), (18, 5, .qo (ixQ 1)), (18, 6, .q [.ex 1 .str]), (18, 7, .q [.aq 17030, .aq 17030, .aq 17030, .aq 17030]), (18, 8, .c puhC [0] [0]), (18, 9, .c chkC [] []), (20, 1, .c objC [] []), (20, 2, .w [.aq 3, .aq 3, .aq 3, .aq 3])]) [(1, 1, OH.q [LH.aq (1000 : Nat)]), (4, 1, OH.q [LH.aq (1000 : Nat)]), (9, 1, OH.q [LH.aq (2 : Nat)]), (18, 3, OH.q [LH.aq (2 : Nat)])] budInv budCut fo_o [LH.aq 3, LH.aq 3, LH.aq 3, LH.aq 3] bud_vc
end
section
open Go
set_option maxHeartbeats 1000000
noncomputable def pzc : Code := codeOf Tryz.f33
noncomputable def pza : Func := { Tryz.f33 with body := some (.seq (cHd pzc) (.region 1 #[] false)) }
noncomputable def pzb : Func := { Tryz.f33 with body := some (.seq .skip (cTl 2 pzc)) }
structure PzX where
  k : RdK
  h : Nat
  w : ByteArray
  l : KVs
  j : Nat
structure PzX.ok (x : PzX) : Prop where
  w : x.w.size ≤ 1048576
  k : x.k.ok
  o : jpk x.w 0 = 123
  a : ObAt x.k x.w 1 x.l x.j
  j : x.j ≤ 1048576
  e : jpk x.w x.j = -1
  l : x.l.length ≤ 9990
  v : ∀ p ∈ x.l, p.1.size ≤ 1048576 ∧ p.2.ok
abbrev pzaC : Con where
  X := PzX
  Y := Unit
  args x := [.pointer (some ⟨x.h, 0, none⟩), .string x.w]
  pre x := [ho0 x.h 10000]
  cond _ := True
  rdc _ _ := True
  rel _ _ := False
  val _ _ := .returned (.tuple #[])
  post _ _ := []
structure Pz2 where
  b4 : Nat
  b5 : Nat
def pzaCut (x : PzX) (F : Atom) : Nat → Option Inv := fun
  | 1 => some { X := Pz2, P := λ_ => True, mu := λ_ => 0, lv := λd => [(0, .pointer (some ⟨x.h, 0, none⟩)), (1, .string x.w), (4, .pointer (some ⟨d.b4, 0, none⟩)), (5, .pointer (some ⟨d.b5, 0, none⟩))], st := λd => [ho0 x.h 10000, F, .cells d.b4 [.int .i64 0, .float .f64 0, .string ⟨#[]⟩, .int .i64 0] 30, .cells d.b5 [.int .i64 0] 32] }
  | _ => none
def pzaOv (_x : PzX) (_F : Atom) : List (Nat × Nat × OH) := [(0, 0, .n 1000), (0, 1, .n 1010)]
def rhp : List LH := [.aq 2, .aq 2, .aq 2, .aq 2, .aq 3]
def pzaL (_ : PzX) : List (Nat × Value) := []
noncomputable def pza_H (x : Con.X pzaC) (F : Atom) : Hints where
  op := hk ((pzaOv x F) ++ [])
  inv := (λ_ _ _ => none) x F
  cut := pzaCut x F
  ord := (λ_ => [])
theorem pza_vc (x : PzX) (F : Atom) (hc : pzaC.cond x) (hr : pzaC.rdc x F) :
 (∀(c b : Nat), ∃(a : Pz2), True ∧ (fo_vp (some ⟨x.h, 0, none⟩) = fo_vp (some ⟨x.h, 0, none⟩) ∧ fo_vs x.w = fo_vs x.w ∧ fo_vp (q13 c) = fo_vp (some ⟨a.b4, 0, none⟩) ∧ fo_vp (q13 b) = fo_vp (some ⟨a.b5, 0, none⟩) ∧ True) ∧ Ent [(0, fo_cl x.h q45 60), (1, F), (1000, fo_cl c q7 30), (1010, fo_cl b [fo_vi 0] 32)] [(0, fo_cl x.h q45 60), (1, F), (2, fo_cl a.b4 q7 30), (3, fo_cl a.b5 [fo_vi 0] 32)]) ∧ fo_vA λ(b : Pz2) _ => True → True := by
  delta q13 q45 q7 fo_vi fo_vs fo_vp fo_vl fo_cl fo_vA
  exact ⟨λb b1 => ⟨⟨b, b1⟩, fo_tv, ⟨rfl, rfl, rfl, rfl, fo_tv⟩, Ent.pick [0, 1, 1000, 1010] rfl rfl⟩, λ_ _ _ => fo_tv⟩
theorem pza_body (x : Con.X pzaC) (F : Atom) (hc : pzaC.cond x) (hr : pzaC.rdc x F) : BodyD Tryz.prog 22 pza (pza_H x F) rhp (codeOf pza) (ent (Con.args pzaC x)) (ofL (Con.pre pzaC x ++ [F])) (pzaL x) (Done pzaC x F) :=
  Eq.mpr (by kernel_rfl) (pza_vc x F hc hr)
structure PzbX where
  x : PzX
  b4 : Nat
  b5 : Nat
abbrev pzbC : Con where
  X := PzbX
  Y := Int
  args z := [.pointer (some ⟨z.x.h, 0, none⟩), .string z.x.w, undef, undef, .pointer (some ⟨z.b4, 0, none⟩), .pointer (some ⟨z.b5, 0, none⟩)]
  pre z := [ho0 z.x.h 10000, .cells z.b4 [.int .i64 0, .float .f64 0, .string ⟨#[]⟩, .int .i64 0] 30, .cells z.b5 [.int .i64 0] 32]
  cond z := z.x.ok
  rdc z F := z.x.k.K.rd F ∧ Utf F
  rel _ _ := True
  val _ _ := .returned (.tuple #[objV, .int .i64 0])
  post z y := [hoA z.x.h y (kvP z.x.l)]
  rmono z _ _ hs h := ⟨z.x.k.K.mono h.1 hs, h.2.sub hs⟩
def pzbCut (z : PzbX) (F : Atom) : Nat → Option Inv := fun
  | 2 => some { X := Unit, P := λ_ => True, mu := λ_ => 0, lv := λ_ => [(0, .pointer (some ⟨z.x.h, 0, none⟩)), (1, .string z.x.w), (4, .pointer (some ⟨z.b4, 0, none⟩)), (5, .pointer (some ⟨z.b5, 0, none⟩))], st := λ_ => [ho0 z.x.h 10000, F, .cells z.b4 [.int .i64 0, .float .f64 0, .string ⟨#[]⟩, .int .i64 0] 30, .cells z.b5 [.int .i64 0] 32] }
  | _ => none
def at8 (n : Nat) : List LH := [.aq n, .aq n, .aq n, .aq n, .aq n, .aq n, .aq n, .aq n]
def pzbOv (_z : PzbX) (_F : Atom) : List (Nat × Nat × OH) := [(2, 2, .n 2020), (3, 1, .c voC [2020] [2020, 3021, 3022]), (3, 2, .n 3020), (3, 3, .w (at8 3020)), (4, 1, .c (pkkC (-1)) [] []), (6, 0, .q (at8 3020)), (6, 2, .c budC [0] [0]), (6, 3, .w [.aq 2, .aq 2, .aq 2, .aq 2]), (6, 4, .w [.aq 3])]
def pzbL (z : PzbX) : List (Nat × Value) := [(4, .pointer (some ⟨z.b4, 0, none⟩))]
noncomputable def pzb_H (x : Con.X pzbC) (F : Atom) : Hints where
  op := hk ((pzbOv x F) ++ [])
  inv := (λ_ _ _ => none) x F
  cut := pzbCut x F
  ord := (λ_ => [])
abbrev q187 (x : PzbX) (F : Atom) (g : VoX) (e : Nat) (f : MnY) := [(0, fo_cl x.x.h q45 60), (1, F), (2, fo_cl x.b4 q7 30), (3, fo_cl x.b5 [fo_vi 0] 32), (2020, fo_cl g.b [fo_vs g.w, fo_vi ↑g.j] 138), (3020, fo_cl e (q25 f) 141), (3021, f.kr.A), (3022, f.vr.A)]
theorem pzb_vc (x : PzbX) (F : Atom) (hc : pzbC.cond x) (hr : pzbC.rdc x F) :
 (∃(a : Unit), True ∧ (fo_vp (some ⟨x.x.h, 0, none⟩) = fo_vp (some ⟨x.x.h, 0, none⟩) ∧ fo_vs x.x.w = fo_vs x.x.w ∧ fo_vp (some ⟨x.b4, 0, none⟩) = fo_vp (some ⟨x.b4, 0, none⟩) ∧ fo_vp (some ⟨x.b5, 0, none⟩) = fo_vp (some ⟨x.b5, 0, none⟩) ∧ True) ∧ Ent [(0, fo_cl x.x.h q45 60), (1, fo_cl x.b4 q7 30), (2, fo_cl x.b5 [fo_vi 0] 32), (3, F)] [(0, fo_cl x.x.h q45 60), (1, F), (2, fo_cl x.b4 q7 30), (3, fo_cl x.b5 [fo_vi 0] 32)]) ∧ fo_vA λ(j : Unit) _ => True → ∀(h : Nat), fo_C4 82 voC (λg => (g.w.size ≤ 1048576 ∧ g.i ≤ 1048570 ∧ g.k.ok ∧ ObAt g.k g.w (g.i + 1) g.l g.j ∧ List.length g.l ≤ 1000000) ∧ jpk g.w g.i = 123 ∧ g.j ≤ 1048576 ∧ isBk (jpk g.w g.j) = false) (λg rr => g.k.K.3 rr ∧ Utf rr) (λg f => MnY.ok g.l f) [fo_vp (q13 h), fo_vi 0] [fo_cl h [fo_vs x.x.w, fo_vi 0] 138] (fo_aR [(0, fo_cl x.x.h q45 60), (1, F), (2, fo_cl x.b4 q7 30), (3, fo_cl x.b5 [fo_vi 0] 32), (2020, fo_cl h [fo_vs x.x.w, fo_vi 0] 138)] [2020]) (λg f => ∀(e : Nat), fo_s5 e (fo_sm e 5 ∧ fo_sm e 6 ∧ fo_sm e 7 ∧ fo_C2 83 (pkkC (-1 : Int)) (λd => d.w.size ≤ 1048576 ∧ d.i ≤ 1048576 ∧ jpk d.w d.i = (-1 : Int)) JrIn [fo_vp (q13 h)] (fo_aR (q187 x F g e f) []) (λd c => fo_s5 e (fo_sm e 5 ∧ fo_sm e 6 ∧ fo_sm e 7 ∧ fo_C4 85 budC (λb => List.length b.l ≤ 9990 ∧ (∀(a : ByteArray × Pv), a ∈ b.l → a.fst.size ≤ 1048576 ∧ a.snd.ok) ∧ MnY.ok b.l b.y) (λb rr => Srcd rr b.y.kr.a (ksL b.l) ∧ Srcd rr b.y.vr.a (lfsL b.l)) (λ_ _ => True) [agg ⟨q25 f⟩, fo_vp (some ⟨x.x.h, 0, none⟩)] [fo_cl x.x.h q45 60] (fo_aR (q187 x F g e f) [0]) (λb a => fo_sm x.b4 0 ∧ fo_sm x.b4 1 ∧ fo_sm x.b4 2 ∧ fo_sm x.b4 3 ∧ fo_sm x.b5 0 ∧ fo_sm x.b4 0 ∧ fo_sm x.b4 1 ∧ fo_sm x.b4 2 ∧ fo_sm x.b4 3 ∧ fo_sm x.b5 0 ∧ Done pzbC x F (fo_rt (tuple ⟨[agg ⟨q14⟩, fo_vi 0]⟩)) [(0, fo_pr (Ex.rest (hoR (kvP b.l)) (hoB b.b a (kvP b.l)))), (1, F), (2, fo_cl x.b4 q14 30), (3, fo_cl x.b5 [fo_vi 0] 32), (2020, fo_cl g.b [fo_vs g.w, fo_vi ↑g.j] 138), (3020, fo_cl e (q25 f) 141), (3021, f.kr.A), (3022, f.vr.A)]))))) := by
  delta q45 q7 q13 q25 q187 q14 fo_aR fo_sm fo_s5 fo_C2 fo_C4 fo_vi fo_vs fo_vb fo_vp fo_vl fo_cl fo_pr fo_rt fo_vA
  obtain ⟨⟨k, h, ws, l, j⟩, b4, b5⟩ := x
  obtain ⟨h1, h2, h3, h4, h5, h6, h7, h8⟩ := hc
  obtain ⟨hr, hu⟩ := hr
  have hr : k.K.rd F := hr
  dsimp only at h1 h2 h3 h4 h5 h6 h7 h8 ⊢
  refine ⟨⟨(), fo_tv, ⟨rfl, rfl, rfl, rfl, fo_tv⟩, Ent.pick [0, 3, 1, 2] rfl rfl⟩, λ_ _ _ b => ⟨vo_ok, rfl, ⟨k, b, ws, 0, l, j⟩, rfl, rfl, ⟨⟨h1, fo_zl _, h2, h4, by dsimp only; omega⟩, h3, h5, by dsimp only; rw [h6] <;> rfl⟩, ⟨k.K.mono hr (sub_rest 1 (by simp) rfl), Utf.rest (j := 1) (by simp) hu⟩, λy hy b1 => ⟨⟨rfl, rfl⟩, ⟨rfl, rfl⟩, ⟨rfl, rfl⟩, ⟨rfl, rfl⟩, ⟨rfl, rfl⟩, ⟨rfl, rfl⟩, ⟨rfl, rfl⟩, ⟨rfl, rfl⟩, pkk_ok, rfl, ⟨b, ws, j, ⟨#[]⟩, 0⟩, rfl, rfl, ⟨h1, h5, h6⟩, JrIn.sub (sub_rest 2020 (by simp) rfl) (.jr ⟨b, ws, j, ⟨#[]⟩, 0⟩), λ_ _ => ⟨⟨rfl, rfl⟩, ⟨rfl, rfl⟩, ⟨rfl, rfl⟩, ⟨rfl, rfl⟩, ⟨rfl, rfl⟩, ⟨rfl, rfl⟩, ⟨rfl, rfl⟩, ⟨rfl, rfl⟩, bud_ok, rfl, ⟨h, l, y⟩, rfl, rfl, ⟨h7, h8, hy⟩, ⟨row_srcd 3021 (by simp) rfl hy.k, row_srcd 3022 (by simp) rfl hy.v⟩, λleft _ => ⟨⟨rfl, rfl⟩, ⟨rfl, rfl⟩, ⟨rfl, rfl⟩, ⟨rfl, rfl⟩, ⟨rfl, rfl⟩, ⟨rfl, rfl⟩, ⟨rfl, rfl⟩, ⟨rfl, rfl⟩, ⟨rfl, rfl⟩, ⟨rfl, rfl⟩, left, fo_tv, rfl, Ent.pick [0, 1] rfl rfl⟩⟩⟩⟩⟩
theorem pzb_body (x : Con.X pzbC) (F : Atom) (hc : pzbC.cond x) (hr : pzbC.rdc x F) : BodyD Tryz.prog 22 pzb (pzb_H x F) rhp (codeOf pzb) (ent (Con.args pzbC x)) (ofL (Con.pre pzbC x ++ [F])) (pzbL x) (Done pzbC x F) :=
  Eq.mpr (by kernel_rfl) (pzb_vc x F hc hr)
end
section
open Go
def capP (b4 b5 : Nat) : Deferred := { target := .fn (.func 81) #[pV b4, pV b5], args := #[] }
theorem wp_deferP {Q : Exit → Act → World → Prop} {T : Tm} {a : Act} {w : World} {b4 b5 : Nat} (hrel : Rel 22 T a) (h4 : T.at 4 = pV b4) (h5 : T.at 5 = pV b5)
    (h : ∀ T' a', a'.defers = capP b4 b5 :: a.defers → Rel 22 T' a' → (∀ i, i ≠ 8 → T'.at i = T.at i) → Q .normal a' w) : (cHd (cTl 1 pzc)).wp Tryz.prog Q a w := by
  have e : cHd (cTl 1 pzc) = .region 1 #[opIn Tryz.f33 1 0, opIn Tryz.f33 1 1] false := by kernel_rfl
  rw [e]
  refine wp_region ?_
  show wpOps _ _ _ [0, 1] a w
  have r1 : (execOp (ev T) (opIn Tryz.f33 1 0)).run Tryz.prog w = .ok (.value (.func (.func 81) #[] #[T.at 4, T.at 5])) w := by kernel_rfl
  refine wpOps_cons (o := opIn Tryz.f33 1 0) rfl rfl ?_
  unfold Oper.wp
  rw [hrel.eval, r1, Oper.upon_value]
  have hrel2 := hrel.put (opIn Tryz.f33 1 0).dst (.func (.func 81) #[] #[T.at 4, T.at 5])
  refine wpOps_cons (o := opIn Tryz.f33 1 1) rfl rfl ?_
  unfold Oper.wp
  have r2 : (execOp (ev (putT 22 (opIn Tryz.f33 1 0).dst (.func (.func 81) #[] #[T.at 4, T.at 5]) T)) (opIn Tryz.f33 1 1)).run Tryz.prog w = .ok (.defer { target := .fn (.func 81) #[T.at 4, T.at 5], args := #[] }) w := by kernel_rfl
  rw [hrel2.eval, r2, Oper.upon_defer]
  refine h _ _ ?_ ((hrel2.defers _).put (opIn Tryz.f33 1 1).dst undef) ?_
  · rw [put_defers, h4, h5]
    show _ :: (a.put _ _).defers = _
    rw [put_defers] <;> rfl
  · intro i hi
    show (putT 22 none undef (putT 22 (some 8) _ T)).at i = _
    show (putT 22 (some 8) _ T).at i = _
    rw [putT_at]
    rw [if_neg (λh => hi h.2)]
theorem codp5 : codeOf Tryz.f81 = .seq (.region 0 #[opIn Tryz.f81 0 0, opIn Tryz.f81 0 1] false) (cTl 1 (codeOf Tryz.f81)) := by kernel_rfl
theorem codp5b : ∃ A, cTl 1 (codeOf Tryz.f81) = .seq (.region 1 #[opIn Tryz.f81 1 0, opIn Tryz.f81 1 1] false) (.cond (.tmp 5) A .skip) := ⟨match cTl 2 (codeOf Tryz.f81) with | .cond _ a _ => a | c => c, by kernel_rfl⟩
theorem catp_head {Q : Exit → Act → List Frame → World → Prop} {b4 b5 : Nat} {v : Value} {cs cs' : List Frame} {w : World} (hr : recoverD cs = some (v, cs') ∨ (recoverD cs = none ∧ v = .nilIface ∧ cs' = cs))
    (h : ∀ T a, Rel 9 T a → a.defers = [] → T.at 0 = pV b4 → T.at 1 = pV b5 → T.at 2 = v → (cTl 1 (codeOf Tryz.f81)).wpS Tryz.prog Q a cs' w) :
    (codeOf Tryz.f81).wpS Tryz.prog Q { tmps := #[pV b4, pV b5] ++ Array.replicate (9 - 2) undef, defers := [] } cs w := by
  rw [codp5]
  refine wpS_seq (wpS_region ?_)
  have hrel := rel_ent (N := 9) [pV b4, pV b5] (Nat.le_of_ble_eq_true rfl)
  show wpOpsS _ _ _ [0, 1] { tmps := ⟨[pV b4, pV b5]⟩ ++ Array.replicate (9 - 2) undef, defers := [] } cs w
  refine wpOpsS_cons (v := v) (cs' := cs') (w' := w) (o := opIn Tryz.f81 0 0) rfl rfl (.inl ⟨?_, hr⟩) ?_
  · rw [show (execOp _ (opIn Tryz.f81 0 0)).run Tryz.prog w = .ok .recover w from rfl]
  have hrel2 := hrel.put (opIn Tryz.f81 0 0).dst v
  refine wpOpsS_cons (v := v) (cs' := cs') (w' := w) (o := opIn Tryz.f81 0 1) rfl rfl (.inr ⟨?_, rfl⟩) ?_
  · have : (execOp (ev (putT 9 (opIn Tryz.f81 0 0).dst v (ent [pV b4, pV b5]))) (opIn Tryz.f81 0 1)).run Tryz.prog w = .ok (.value v) w := by kernel_rfl
    rw [← hrel2.eval] at this
    exact this
  have hrel3 := hrel2.put (opIn Tryz.f81 0 1).dst v
  exact h _ _ hrel3 (by rw [put_defers, put_defers]) (by kernel_rfl) (by kernel_rfl) (by kernel_rfl)
theorem catp_idle (b4 b5 : Nat) (w : World) : CallsD Tryz.prog 81 #[pV b4, pV b5] .returning w λe u' w' => e = .returned (.tuple #[]) ∧ u' = .returning ∧ w' = w := by
  refine callsD_of_wpS (c := codeOf Tryz.f81) Tryz.func81 (by kernel_rfl) λc₀ cs hu => ?_
  refine catp_head (v := .nilIface) (cs' := c₀ :: cs) (.inr ⟨by simp [recoverD, hu], rfl, rfl⟩) λT a hrel hd _ _ h2 => ?_
  obtain ⟨A, hA⟩ := codp5b
  rw [hA]
  refine wpS_of_wp (wp_seq (wp_region ?_))
  show wpOps _ _ _ [0, 1] a w
  have hrel' : Rel 9 (over T.at [(2, .nilIface)]) a := over_rel hrel ⟨h2, fo_tv⟩
  refine wpOps_cons (o := opIn Tryz.f81 1 0) rfl rfl ?_
  unfold Oper.wp
  rw [hrel'.eval, show (execOp (ev (over T.at [(2, .nilIface)])) (opIn Tryz.f81 1 0)).run Tryz.prog w = .ok (.value .nilIface) w by kernel_rfl, Oper.upon_value]
  have hrel2 := hrel'.put (opIn Tryz.f81 1 0).dst .nilIface
  refine wpOps_cons (o := opIn Tryz.f81 1 1) rfl rfl ?_
  unfold Oper.wp
  rw [hrel2.eval, show (execOp (ev (putT 9 (opIn Tryz.f81 1 0).dst .nilIface (over T.at [(2, .nilIface)]))) (opIn Tryz.f81 1 1)).run Tryz.prog w = .ok (.value (.bool false)) w by kernel_rfl, Oper.upon_value]
  have hrel3 := hrel2.put (opIn Tryz.f81 1 1).dst (.bool false)
  show Code.wp _ _ _ _ _
  refine wp_cond (t := false) ?_ (wp_skip ?_)
  · rw [hrel3.eval]; kernel_rfl
  · refine ⟨by rw [put_defers, put_defers]; exact hd, .returning, ?_, .tuple #[], by kernel_rfl, rfl, rfl, rfl⟩
    rw [← hu]
abbrev przC : Con where
  X := PzX
  Y := Int
  args x := [.pointer (some ⟨x.h, 0, none⟩), .string x.w]
  pre x := [ho0 x.h 10000]
  cond x := x.ok
  rdc x F := x.k.K.rd F ∧ Utf F
  rel _ _ := True
  val _ _ := .returned (.tuple #[objV, .int .i64 0])
  post x y := [hoA x.h y (kvP x.l)]
  rmono x _ _ hs h := ⟨x.k.K.mono h.1 hs, h.2.sub hs⟩
theorem codp2 : Tryz.f33.body = some (.seq (cHd pzc) (.seq (cHd (cTl 1 pzc)) (cTl 2 pzc))) := by kernel_rfl
theorem prz_end {z : PzbX} {F : Atom} {I : Imm} {w : World} {R : Ending → World → Prop}
    (hret : ∀ w' J y, Imm.le I J → Sat J (ofL (pzbC.post z y ++ [F])) w' → Env w w' → R (.returned (.tuple #[objV, .int .i64 0])) w') :
    ∀ e a' w', Aft 22 I w [capP z.b4 z.b5] ((λe T S => match e with
    | .normal => match pzbL z with | [] => True | _ :: _ => rd Tryz.prog S (resSem pzb T) rhp λv => Done pzbC z F (.returned v) S
    | .ret => rd Tryz.prog S (resSem pzb T) rhp λv => Done pzbC z F (.returned v) S
    | .panic ch => Eqs T (pzbL z) ∧ Done pzbC z F (.panicked ch) S
    | _ => False : Exit → Tm → St → Prop) e) a' w' → bodyPostD Tryz.prog Tryz.f33 R e a' w' := by
  intro e a' w' haft
  obtain ⟨T', S', J, g1, g2, g3, g4, g5, g6⟩ := haft
  have fin : rd Tryz.prog S' (resSem pzb T') rhp (λv => Done pzbC z F (.returned v) S') → Leaves Tryz.prog Tryz.f33 a'.tmps R a'.defers .returning w' := by
    intro g6
    obtain ⟨v, hrun, ⟨⟨y, hy, hv, hent⟩⟩⟩ := rd_sound g4 _ _ _ g6
    obtain ⟨J', hle, hs2⟩ := hent.h J w' g4
    rw [g2]
    refine leaves_cons (by simp) (f := 81) (args := #[pV z.b4, pV z.b5]) (by kernel_rfl) ((catp_idle _ _ _).mono ?_)
    rintro _ _ w2 ⟨rfl, rfl, e2⟩
    replace e2 := e2.symm
    subst e2
    have hres : (results Tryz.f33 a'.tmps).run Tryz.prog w' = .ok v w' := by
      rw [show results Tryz.f33 a'.tmps = results pzb a'.tmps from rfl, results_eq g1]; exact hrun
    exact ⟨v, hres, hv ▸ hret w' J' y (Imm.le_trans g3 hle) hs2 g5⟩
  cases e with
  | normal => exact fin g6
  | ret => exact fin g6
  | panic ch =>
    obtain ⟨hq, ⟨⟨y, hy, hv, hent⟩⟩⟩ := g6
    cases hv
  | _ => exact g6.elim
theorem prz_ok : fo_k 33 przC := ⟨λx F I w hc hr hs => by
  have hc : x.ok := hc
  refine calls_of_wp_defers Tryz.func33 codp2 ?_
  have hm : Tryz.prog.follows .mixedOrders = true := by kernel_rfl
  have hrel := rel_ent (N := 22) [.pointer (some ⟨x.h, 0, none⟩), .string x.w] (Nat.le_of_ble_eq_true rfl)
  have hA := pza_body x F trivial trivial
  unfold BodyD at hA
  refine wp_cut hm (H := pza_H x F) (y := .region 1 #[] false) (V := (pzaCut x F 1).get rfl) (by kernel_rfl) rfl hA hrel rfl hs (λe a' w' hne haft => ?_) ?_
  · obtain ⟨T', S', J, g1, g2, g3, g4, g5, g6⟩ := haft
    cases e with
    | normal => exact absurd rfl hne
    | ret =>
      obtain ⟨v, hrun, ⟨⟨_, hbad, _, _⟩⟩⟩ := rd_sound g4 _ _ _ g6
      exact hbad.elim
    | panic ch =>
      obtain ⟨_, ⟨⟨_, hbad, _, _⟩⟩⟩ := g6
      exact hbad.elim
    | _ => exact g6.elim
  rintro ⟨b4, b5⟩ js J a w1 - - hrel1 hd1 hle1 hs1 henv1
  refine wp_seq (wp_deferP hrel1 (b4 := b4) (b5 := b5) rfl rfl λT6 a6 hd6 hrel6 hT6 => ?_)
  have hb := pzb_body ⟨x, b4, b5⟩ F hc hr
  unfold BodyD at hb
  have hE := E_cut (V := (pzbCut ⟨x, b4, b5⟩ F 2).get rfl) (by kernel_rfl) rfl (show E _ _ _ (.seq .skip (cTl 2 pzc)) _ _ _ _ from hb) () T6.at trivial
  refine E_sound hm _ _ hE (over_rel hrel6 ⟨(hT6 0 (by decide)).trans rfl, (hT6 1 (by decide)).trans rfl, (hT6 4 (by decide)).trans rfl, (hT6 5 (by decide)).trans rfl, fo_tv⟩) (hd6.trans (by rw [hd1])) (hs1.pick [0, 1, 2, 3] rfl rfl) (prz_end ?_)
  intro w' J' y hle hs' henv
  exact ⟨y, J', fo_tv, rfl, Imm.le_trans hle1 hle, hs', henv1.trans henv⟩⟩
end
section
open Go
set_option maxHeartbeats 1000000
def hexU (n : Nat) : Nat := bif decide (n < 10) then 48 + n else 55 + n
def cdK (c : Nat) : Bool := ((decide (97 ≤ c) && decide (c ≤ 122)) || (decide (65 ≤ c) && decide (c ≤ 90))) || ((decide (48 ≤ c) && decide (c ≤ 57)) || (c == 42 || (c == 45 || (c == 46 || c == 95))))
def cdB (c : Nat) : List Nat := bif cdK c then [c] else bif c == 32 then [43] else [37, hexU (c / 16), hexU (c % 16)]
def cdF (s : ByteArray) : Nat → ByteArray
  | 0 => ⟨#[]⟩
  | i + 1 => cdF s i ++ btL (cdB (bt s i))
def cdV (s : ByteArray) : ByteArray := cdF s s.size
theorem cdF_size (s : ByteArray) : ∀ i, (cdF s i).size ≤ 3 * i
  | 0 => fo_nr _
  | i + 1 => by
    have h := cdF_size s i
    have h2 : (cdB (bt s i)).length ≤ 3 := by
      unfold cdB
      cases cdK (bt s i) with
      | true => exact (by decide : 1 ≤ 3)
      | false =>
        cases (bt s i == 32) with
        | true => exact (by decide : 1 ≤ 3)
        | false => exact fo_nr _
    rw [cdF, sz_app]
    omega
def hxcT : ByteArray := ⟨#[48, 49, 50, 51, 52, 53, 54, 55, 56, 57, 65, 66, 67, 68, 69, 70]⟩
theorem hxcT_at : ∀ n : Fin 16, (hxcT.extract n.val (n.val + 1)).data.toList = (btL [hexU n.val]).data.toList := by decide +kernel
theorem hxcT_ext {n : Nat} (h : n < 16) : hxcT.extract n (n + 1) = btL [hexU n] := ba_list (hxcT_at ⟨n, h⟩)
theorem cd_hi : ∀ c : Fin 256, (c.val : Int).fdiv (2 ^ min (Int.toNat 4) u8.bits) = ((c.val / 16 : Nat) : Int) ∧ u8.wrap (((c.val / 16 : Nat) : Int) + 1) = ((c.val / 16 + 1 : Nat) : Int) ∧ u8.wrap (↑(BitVec.ofInt u8.bits (c.val : Int) &&& BitVec.ofInt u8.bits 15).toNat : Int) = ((c.val % 16 : Nat) : Int) ∧ u8.wrap (((c.val % 16 : Nat) : Int) + 1) = ((c.val % 16 + 1 : Nat) : Int) := by decide +kernel
theorem cd_ib : ∀ c : Fin 256, decide (Lib.indexByte [42, 45, 46, 95] (UInt8.ofNat c.val) ≥ 0) = (c.val == 42 || (c.val == 45 || (c.val == 46 || c.val == 95))) := by decide +kernel
theorem cdK1 {c : Nat} (a : 97 ≤ c) (b : c ≤ 122) : cdK c = true := by unfold cdK; rw [fo_dt a, fo_dt b] <;> rfl
theorem cdK2 {c : Nat} (a : 65 ≤ c) (b : c ≤ 90) : cdK c = true := by unfold cdK; rw [fo_dt a, fo_dt b]; simp
theorem cdK3 {c : Nat} (a : 48 ≤ c) (b : c ≤ 57) : cdK c = true := by unfold cdK; rw [fo_dt a, fo_dt b]; simp
theorem cdK4 {c : Nat} (hc : c < 256) (a : ¬ (97 ≤ c ∧ c ≤ 122)) (b : ¬ (65 ≤ c ∧ c ≤ 90)) (d : ¬ (48 ≤ c ∧ c ≤ 57)) : decide (Lib.indexByte [42, 45, 46, 95] (UInt8.ofNat c) ≥ 0) = cdK c := by
  rw [cd_ib ⟨c, hc⟩]
  unfold cdK
  have a : (decide (97 ≤ c) && decide (c ≤ 122)) = false := by simpa using a
  have b : (decide (65 ≤ c) && decide (c ≤ 90)) = false := by simpa using b
  have d : (decide (48 ≤ c) && decide (c ≤ 57)) = false := by simpa using d
  rw [a, b, d] <;> rfl
abbrev cdC : Con where
  X := StX
  Y := Unit
  args x := [.string x.s]
  pre _ := []
  cond x := x.s.size ≤ 1048576
  rdc _ _ := True
  rel _ _ := True
  val x _ := .returned (.string (cdV x.s))
  post _ _ := []
structure CdS where
  b : Nat
  i : Nat
def cdG : (T : Type) × (CdS → T) := ⟨CdS, λd => d⟩
def cdInv (x : StX) (F : Atom) : Nat → Option Inv := fun
  | 0 => some { X := CdS, P := λd => d.i ≤ x.s.size, mu := λd => x.s.size - d.i, lv := λd => [(0, .string x.s), (3, .pointer (some ⟨d.b, 0, none⟩)), (7, .int .i64 x.s.size), (8, .int .i64 d.i)], st := λd => [bdA d.b (cdF x.s d.i), F] }
  | _ => none
def cdCut (x : StX) (F : Atom) : Nat → Option Inv := fun
  | 8 => some { X := CdS, P := λd => d.i < x.s.size, mu := λ_ => 0, lv := λd => [(0, .string x.s), (3, .pointer (some ⟨d.b, 0, none⟩)), (5, .int .u8 (bt x.s d.i : Nat)), (7, .int .i64 x.s.size), (8, .int .i64 d.i), (29, .bool (cdK (bt x.s d.i)))], st := λd => [bdA d.b (cdF x.s d.i), F], gh := some cdG }
  | _ => none
abbrev q175 (h : CdS) : Option Addr := some ⟨h.b, 0, none⟩
abbrev q167 (h : CdS) (x : StX) (F : Atom) := [(0, fo_pr (Ex.rest (bdR h.b (cdF x.s h.i)) (bdB h.b))), (1, F)]
def T103 (e0 : StX) (e1 : CdS) (e2 : Atom) (v0 v1 v2 v3 : Value) (ss : St) := ∃ (z : CdS), (z.i < e0.s.size ∧ cdG.snd z = e1) ∧ (fo_vs e0.s = fo_vs e0.s ∧ v0 = fo_vp (q175 z) ∧ v1 = fo_vc (↑(bt e0.s z.i) : Int) ∧ fo_vi ↑e0.s.size = fo_vi ↑e0.s.size ∧ v2 = fo_vi ↑z.i ∧ v3 = fo_vb (cdK (bt e0.s z.i)) ∧ True) ∧ Ent ss (q167 z e0 e2)
def q53 (x : StX) (f : CdS) (F : Atom) (h : CdS) := T103 x f F (fo_vp (q175 h)) (fo_vc (byteAt x.s (h.i : Int))) (fo_vi ↑h.i) (fo_vb true) (q167 h x F)
def q97 (x : StX) (h f : CdS) (F : Atom) := T14 [fo_vs ⟨#[42, 45, 46, 95]⟩, fo_vc (byteAt x.s (h.i : Int))] (λc b => T103 x f F (fo_vp (q175 h)) (fo_vc (byteAt x.s (h.i : Int))) (fo_vi ↑h.i) (fo_vb (decide (Lib.indexByte c.s.data.toList (UInt8.ofNat c.c) ≥ 0))) (q167 h x F))
def q5 (x : StX) (h f : CdS) (F : Atom) := fo_Bd (byteAt x.s (h.i : Int) ≥ 48) (fo_Bd (byteAt x.s (h.i : Int) ≤ 57) (q53 x f F h) (q97 x h f F)) (q97 x h f F)
def q283 (x : StX) (h f : CdS) (F : Atom) := fo_Bd (byteAt x.s (h.i : Int) ≥ 65) (fo_Bd (byteAt x.s (h.i : Int) ≤ 90) (q53 x f F h) (q5 x h f F)) (q5 x h f F)
def T104 (e0 : StX) (e1 : Atom) (v0 v1 : Value) (ss : St) (mm : Nat) := ∃ (z : CdS), z.i ≤ e0.s.size ∧ (fo_vs e0.s = fo_vs e0.s ∧ v0 = fo_vp (q175 z) ∧ fo_vi ↑e0.s.size = fo_vi ↑e0.s.size ∧ v1 = fo_vi ↑z.i ∧ True) ∧ Ent ss (q167 z e0 e1) ∧ e0.s.size - z.i < mm
abbrev q322 (e : CdS) (x : StX) (F : Atom) (h : CdS) : BpX → Unit → Prop := λc b => fo_rI ((e.i : Int) + 1) ∧ T104 x F (fo_vp (q175 e)) (fo_vi ((e.i : Int) + 1)) (q128 c F) (x.s.size - h.i)
abbrev q69 : ByteArray := ByteArray.mk #[48, 49, 50, 51, 52, 53, 54, 55, 56, 57, 65, 66, 67, 68, 69, 70]
theorem cd_vc (x : StX) (F : Atom) (hc : cdC.cond x) (hr : cdC.rdc x F) :
 ∀(i : Nat), (∃(a : CdS), a.i ≤ x.s.size ∧ (fo_vs x.s = fo_vs x.s ∧ fo_vp (q13 i) = fo_vp (q175 a) ∧ fo_vi ↑x.s.size = fo_vi ↑x.s.size ∧ fo_vi 0 = fo_vi ↑a.i ∧ True) ∧ Ent [(0, F), (1000, fo_cl i q392 81)] (q167 a x F)) ∧ fo_vA λ(h : CdS) _ => h.i ≤ x.s.size → fo_Bd ((h.i : Int) < (x.s.size : Int)) ((0 ≤ (h.i : Int) ∧ (h.i : Int) < (x.s.size : Int)) ∧ ∃(f : CdS), fo_Bd (byteAt x.s (h.i : Int) ≥ 97) (fo_Bd (byteAt x.s (h.i : Int) ≤ 122) (q53 x f F h) (q283 x h f F)) (q283 x h f F) ∧ fo_vA λ(e : CdS) _ => (e.i < x.s.size ∧ cdG.snd e = f) → Br (cdK (bt x.s e.i)) (T15 [fo_vp (q175 e), fo_vc (↑(bt x.s e.i) : Int)] [fo_pr (Ex.rest (bdR e.b (cdF x.s e.i)) (bdB e.b))] (q322 e x F h)) (Br ((↑(bt x.s e.i) : Int) == 32) (T15 [fo_vp (q175 e), fo_vc 43] [fo_pr (Ex.rest (bdR e.b (cdF x.s e.i)) (bdB e.b))] (q322 e x F h)) (true = true ∧ (0 ≤ (↑(bt x.s e.i) : Int).fdiv ((2 : Int) ^ min (Int.toNat (4 : Int)) u8.bits) ∧ (↑(bt x.s e.i) : Int).fdiv ((2 : Int) ^ min (Int.toNat (4 : Int)) u8.bits) ≤ u8.wrap ((↑(bt x.s e.i) : Int).fdiv ((2 : Int) ^ min (Int.toNat (4 : Int)) u8.bits) + 1) ∧ u8.wrap ((↑(bt x.s e.i) : Int).fdiv ((2 : Int) ^ min (Int.toNat (4 : Int)) u8.bits) + 1) ≤ (↑q69.size : Int)) ∧ 1 + (q69.extract ((↑(bt x.s e.i) : Int).fdiv ((2 : Int) ^ min (Int.toNat (4 : Int)) u8.bits)).toNat (u8.wrap ((↑(bt x.s e.i) : Int).fdiv ((2 : Int) ^ min (Int.toNat (4 : Int)) u8.bits) + 1)).toNat).size ≤ 9223372036854775807 ∧ (0 ≤ u8.wrap (↑(BitVec.ofInt u8.bits (↑(bt x.s e.i) : Int) &&& BitVec.ofInt u8.bits (15 : Int)).toNat : Int) ∧ u8.wrap (↑(BitVec.ofInt u8.bits (↑(bt x.s e.i) : Int) &&& BitVec.ofInt u8.bits (15 : Int)).toNat : Int) ≤ u8.wrap (u8.wrap (↑(BitVec.ofInt u8.bits (↑(bt x.s e.i) : Int) &&& BitVec.ofInt u8.bits (15 : Int)).toNat : Int) + 1) ∧ u8.wrap (u8.wrap (↑(BitVec.ofInt u8.bits (↑(bt x.s e.i) : Int) &&& BitVec.ofInt u8.bits (15 : Int)).toNat : Int) + 1) ≤ (↑q69.size : Int)) ∧ ((ByteArray.mk #[37]) ++ q69.extract ((↑(bt x.s e.i) : Int).fdiv ((2 : Int) ^ min (Int.toNat (4 : Int)) u8.bits)).toNat (u8.wrap ((↑(bt x.s e.i) : Int).fdiv ((2 : Int) ^ min (Int.toNat (4 : Int)) u8.bits) + 1)).toNat).size + (q69.extract (u8.wrap (↑(BitVec.ofInt u8.bits (↑(bt x.s e.i) : Int) &&& BitVec.ofInt u8.bits (15 : Int)).toNat : Int)).toNat (u8.wrap (u8.wrap (↑(BitVec.ofInt u8.bits (↑(bt x.s e.i) : Int) &&& BitVec.ofInt u8.bits (15 : Int)).toNat : Int) + 1)).toNat).size ≤ 9223372036854775807 ∧ fo_C3 113 wsP (λc => c.t.size + c.s.size ≤ 140737488355328) [fo_vp (q175 e), fo_vs ((ByteArray.mk #[37]) ++ q69.extract ((↑(bt x.s e.i) : Int).fdiv ((2 : Int) ^ min (Int.toNat (4 : Int)) u8.bits)).toNat (u8.wrap ((↑(bt x.s e.i) : Int).fdiv ((2 : Int) ^ min (Int.toNat (4 : Int)) u8.bits) + 1)).toNat ++ q69.extract (u8.wrap (↑(BitVec.ofInt u8.bits (↑(bt x.s e.i) : Int) &&& BitVec.ofInt u8.bits (15 : Int)).toNat : Int)).toNat (u8.wrap (u8.wrap (↑(BitVec.ofInt u8.bits (↑(bt x.s e.i) : Int) &&& BitVec.ofInt u8.bits (15 : Int)).toNat : Int) + 1)).toNat)] [fo_pr (Ex.rest (bdR e.b (cdF x.s e.i)) (bdB e.b))] (λc b => fo_rI ((e.i : Int) + 1) ∧ T104 x F (fo_vp (q175 e)) (fo_vi ((e.i : Int) + 1)) [(0, fo_pr (Ex.rest (bdR c.b (c.t ++ c.s)) (bdB c.b))), (1, F)] (x.s.size - h.i))))) (T18 [fo_vp (q175 h)] [fo_pr (Ex.rest (bdR h.b (cdF x.s h.i)) (bdB h.b))] (λb a => Done cdC x F (fo_rt (fo_vs b.t)) [(0, fo_em), (1, F)])) := by
  delta q13 q175 q392 q167 T103 q53 T14 q97 q5 q283 T15 T104 q128 q322 q69 T18 fo_rI fo_C1 fo_C3 fo_vi fo_vc fo_vs fo_vb fo_vp fo_vl fo_cl fo_pr fo_em fo_Bd fo_rt fo_vA
  have hs : x.s.size ≤ 1048576 := hc
  intro b
  refine ⟨⟨⟨b, 0⟩, fo_zl _, ⟨rfl, rfl, rfl, rfl, fo_tv⟩, Ent.ex [0] [1000, 999] ⟨none, nilRow⟩ (bd_new b) rfl rfl rfl⟩, ?_⟩
  clear b
  rintro ⟨b, i⟩ js hi
  dsimp only at hi ⊢
  have hz := cdF_size x.s i
  refine br_decide (λhlt => ⟨⟨by omega, hlt⟩, ⟨b, i⟩, ?_, ?_⟩) (λhge => ?_)
  · have hlt : i < x.s.size := by omega
    have eNul : byteAt x.s (i : Int) = (bt x.s i : Int) := by rw [byteAt_bt, fo_tn]
    rw [eNul]
    have fin : ∀ t : Bool, t = cdK (bt x.s i) → ∃ d : CdS, (d.i < x.s.size ∧ cdG.snd d = ⟨b, i⟩) ∧ (string x.s = string x.s ∧ pointer (some ⟨b, 0, none⟩) = pointer (some ⟨d.b, 0, none⟩) ∧ int .u8 (bt x.s i : Int) = int .u8 (bt x.s d.i : Int) ∧ int .i64 (x.s.size : Int) = int .i64 (x.s.size : Int) ∧ int .i64 (i : Int) = int .i64 (d.i : Int) ∧ bool t = bool (cdK (bt x.s d.i)) ∧ True) ∧ Ent [(0, bdA b (cdF x.s i)), (1, F)] [(0, bdA d.b (cdF x.s d.i)), (1, F)] := λt e =>
      ⟨⟨b, i⟩, ⟨hlt, rfl⟩, ⟨rfl, rfl, rfl, rfl, rfl, by rw [e], fo_tv⟩, Ent.pick [0, 1] rfl rfl⟩
    exact br_decide (λa => br_decide (λb => fin _ (cdK1 (by omega) (by omega)).symm) (λb => (br_decide (λc => br_decide (λd => fin _ (cdK2 (by omega) (by omega)).symm) (λd => (br_decide (λe => br_decide (λf => fin _ (cdK3 (by omega) (by omega)).symm) (λf => ⟨ib_ok, rfl, ⟨⟨#[42, 45, 46, 95]⟩, bt x.s i⟩, rfl, rfl, bt_lt _ _, fo_tv, λ_ _ => fin _ (cdK4 (c := bt x.s i) (bt_lt _ _) (by omega) (by omega) (by omega))⟩)) (λe => ⟨ib_ok, rfl, ⟨⟨#[42, 45, 46, 95]⟩, bt x.s i⟩, rfl, rfl, bt_lt _ _, fo_tv, λ_ _ => fin _ (cdK4 (c := bt x.s i) (bt_lt _ _) (by omega) (by omega) (by omega))⟩)))) (λc => (br_decide (λe => br_decide (λf => fin _ (cdK3 (by omega) (by omega)).symm) (λf => ⟨ib_ok, rfl, ⟨⟨#[42, 45, 46, 95]⟩, bt x.s i⟩, rfl, rfl, bt_lt _ _, fo_tv, λ_ _ => fin _ (cdK4 (c := bt x.s i) (bt_lt _ _) (by omega) (by omega) (by omega))⟩)) (λe => ⟨ib_ok, rfl, ⟨⟨#[42, 45, 46, 95]⟩, bt x.s i⟩, rfl, rfl, bt_lt _ _, fo_tv, λ_ _ => fin _ (cdK4 (c := bt x.s i) (bt_lt _ _) (by omega) (by omega) (by omega))⟩)))))) (λa => (br_decide (λc => br_decide (λd => fin _ (cdK2 (by omega) (by omega)).symm) (λd => (br_decide (λe => br_decide (λf => fin _ (cdK3 (by omega) (by omega)).symm) (λf => ⟨ib_ok, rfl, ⟨⟨#[42, 45, 46, 95]⟩, bt x.s i⟩, rfl, rfl, bt_lt _ _, fo_tv, λ_ _ => fin _ (cdK4 (c := bt x.s i) (bt_lt _ _) (by omega) (by omega) (by omega))⟩)) (λe => ⟨ib_ok, rfl, ⟨⟨#[42, 45, 46, 95]⟩, bt x.s i⟩, rfl, rfl, bt_lt _ _, fo_tv, λ_ _ => fin _ (cdK4 (c := bt x.s i) (bt_lt _ _) (by omega) (by omega) (by omega))⟩)))) (λc => (br_decide (λe => br_decide (λf => fin _ (cdK3 (by omega) (by omega)).symm) (λf => ⟨ib_ok, rfl, ⟨⟨#[42, 45, 46, 95]⟩, bt x.s i⟩, rfl, rfl, bt_lt _ _, fo_tv, λ_ _ => fin _ (cdK4 (c := bt x.s i) (bt_lt _ _) (by omega) (by omega) (by omega))⟩)) (λe => ⟨ib_ok, rfl, ⟨⟨#[42, 45, 46, 95]⟩, bt x.s i⟩, rfl, rfl, bt_lt _ _, fo_tv, λ_ _ => fin _ (cdK4 (c := bt x.s i) (bt_lt _ _) (by omega) (by omega) (by omega))⟩)))))
  · rintro ⟨b', i'⟩ js ⟨hlt, e⟩
    have e : CdS.mk b' i' = ⟨b, i⟩ := e
    cases e
    dsimp only at hlt ⊢
    have hc := bt_lt x.s i
    have step : ∀ l : List Nat, cdB (bt x.s i) = l → cdF x.s i ++ btL l = cdF x.s (i + 1) := λl e => by rw [cdF, e]
    refine br_intro (λk => ?_) (λk => br_intro (λk2 => ?_) (λk2 => ?_))
    · refine ⟨wbp_ok, rfl, ⟨b, cdF x.s i, ⟨#[]⟩, bt x.s i⟩, rfl, rfl, ⟨by dsimp only; omega, hc⟩, fo_tv, λ_ _ => ⟨⟨by omega, by omega⟩, ⟨b, i + 1⟩, hlt, ⟨rfl, rfl, rfl, rfl, fo_tv⟩, Ent.pick [0, 1] rfl ?_, by dsimp only; omega⟩⟩
      have h := step [bt x.s i] (by unfold cdB; rw [k] <;> rfl)
      dsimp only
      rw [h] <;> rfl
    · refine ⟨wbp_ok, rfl, ⟨b, cdF x.s i, ⟨#[]⟩, 43⟩, rfl, rfl, ⟨by dsimp only; omega, (by dsimp only; decide)⟩, fo_tv, λ_ _ => ⟨⟨by omega, by omega⟩, ⟨b, i + 1⟩, hlt, ⟨rfl, rfl, rfl, rfl, fo_tv⟩, Ent.pick [0, 1] rfl ?_, by dsimp only; omega⟩⟩
      have h := step [43] (by unfold cdB; rw [k, eqN 32 k2] <;> rfl)
      dsimp only
      rw [h] <;> rfl
    · obtain ⟨q1, q2, q3, q4⟩ := cd_hi ⟨bt x.s i, hc⟩
      dsimp only at q1 q2 q3 q4
      rw [q1, q3, q2, q4]
      rw [fo_tn, fo_tn, fo_tn, fo_tn]
      have g1 := hxcT_ext (n := bt x.s i / 16) (by omega)
      have g2 := hxcT_ext (n := bt x.s i % 16) (by omega)
      unfold hxcT at g1 g2
      rw [g1, g2]
      have h := step [37, hexU (bt x.s i / 16), hexU (bt x.s i % 16)] (by unfold cdB; rw [k, eqN 32 k2] <;> rfl)
      have z1 : ∀ n, (btL [n]).size = 1 := λn => by rw [btL_size] <;> rfl
      have e3 : (⟨#[37]⟩ : ByteArray) ++ btL [hexU (bt x.s i / 16)] ++ btL [hexU (bt x.s i % 16)] = btL [37, hexU (bt x.s i / 16), hexU (bt x.s i % 16)] := rfl
      rw [e3]
      refine ⟨rfl, ⟨by omega, by omega, by show ((bt x.s i / 16 + 1 : Nat) : Int) ≤ 16; omega⟩, by rw [z1]; omega, ⟨by omega, by omega, by show ((bt x.s i % 16 + 1 : Nat) : Int) ≤ 16; omega⟩, ?_, wsp_ok, rfl, ⟨b, cdF x.s i, btL [37, hexU (bt x.s i / 16), hexU (bt x.s i % 16)], 0⟩, rfl, rfl, ?_, fo_tv, λ_ _ => ⟨⟨by omega, by omega⟩, ⟨b, i + 1⟩, hlt, ⟨rfl, rfl, rfl, rfl, fo_tv⟩, Ent.pick [0, 1] rfl ?_, by dsimp only; omega⟩⟩
      · rw [fo_sa, z1, z1]; show 1 + 1 + 1 ≤ _; omega
      · dsimp only
        rw [btL_size]
        simp only [fo_lc, List.length_nil]
        omega
      · dsimp only
        rw [h] <;> rfl
  · have hi : i = x.s.size := by omega
    exact ⟨bsp_ok, rfl, ⟨b, cdF x.s i, ⟨#[]⟩, 0⟩, rfl, rfl, by dsimp only; omega, fo_tv, λ_ _ => ⟨(), fo_tv, by rw [hi] <;> rfl, Ent.pick [1] rfl rfl⟩⟩
theorem cd_ok : fo_k 88 cdC := fo 65 Tryz.func88 (λ_ _ => [(1, 0, .n 1000), (7, 24, .c ibC [] []), (8, 1, .c wbP [0] [0]), (10, 0, .c wbP [0] [0]), (6, 1, .q []), (6, 3, .q []), (6, 4, .q []), (6, 8, .q []), (6, 10, .q []), (6, 11, .q []), (6, 14, .c wsP [0] [0]), (12, 0, .c bsP [0] [])]) [] cdInv cdCut fo_o [] cd_vc
end
section
open Go
set_option maxHeartbeats 1000000
def jnB (l : List ByteArray) (sep : ByteArray) : ByteArray := ⟨(Lib.join (l.map (·.data.toList)) sep.data.toList).toArray⟩
structure JnX where
  xs : List ByteArray
  a : Option Addr
  c : Nat
  sep : ByteArray
abbrev jnC : Con where
  X := JnX
  Y := Unit
  args x := [.slice x.a x.xs.length x.c, .string x.sep]
  pre _ := []
  cond x := IsSrc 1 (strs x.xs) x.a x.xs.length ∧ x.xs.length ≤ 4096 ∧ x.xs.length ≤ x.c ∧ (jnB x.xs x.sep).size ≤ 140737488355328
  rdc x F := Srcd F x.a (strs x.xs)
  rel _ _ := True
  val x _ := .returned (.string (jnB x.xs x.sep))
  post _ _ := []
  rmono _ _ _ hs h := h.sub hs
theorem jn_ok : fo_k 89 jnC := FnOk.ofBelow jnC (λ_ => rfl) (λ_ _ => ()) (λ_ _ => fo_tv) (λ_ _ => rfl) λx F I w hc hr hs => by
  obtain ⟨xs, a, c, sep⟩ := x
  obtain ⟨h1, h2, h3, h4⟩ := hc
  dsimp only at h1 h2 h3 h4 hr
  cases xs with
  | nil => exact (Go.Proofs.Tryz.strings_Join_none a c sep w).mono λe w' h => ⟨h.1, h.2 ▸ RowKit.Below.refl _ _⟩
  | cons x0 r =>
    obtain ⟨b, o, rfl⟩ := h1.some (by simp)
    have hr' : Srcd F (some ⟨b, o, none⟩) (strs (x0 :: r)) := hr
    have hcell : ∀ (j : Nat) x, (x0 :: r)[j]? = some x → w.cell? ⟨b, o + j, none⟩ = some (.string x) := λj x hx => by
      exact hs.lookF (hr'.look (j := j) (v := .string x) (by unfold strs; rw [fo_gm, hx] <;> rfl))
    have hb : b < w.heap.size := by
      have h := hcell 0 x0 rfl
      rcases Nat.lt_or_ge b w.heap.size with hl | hl
      · exact hl
      · exfalso
        unfold World.cell? at h
        rw [show w.heap[(⟨b, o + 0, none⟩ : Addr).block]? = none from by simp [hl]] at h
        cases h
    exact (Go.Proofs.Tryz.strings_Join b o c (x0 :: r) sep w hcell hb (by omega) h3 h4).mono λe w' h => h
def fpV (l : List Fld) : List ByteArray := l.map λf => cdV f.1 ++ ⟨#[61]⟩ ++ cdV f.2
def fwB (l : List Fld) : ByteArray := jnB (fpV l) ⟨#[38]⟩
def fwV (l : List Fld) : ByteArray := bif decide (l.length > 32) then ⟨#[]⟩ else bif decide ((fwB l).size > 4096) then ⟨#[]⟩ else fwB l
def fwE (l : List Fld) : Int := bif decide (l.length > 32) then 4 else bif decide ((fwB l).size > 4096) then 2 else 0
theorem lens_le {M : Nat} : ∀ l : List (List UInt8), (∀ x ∈ l, x.length ≤ M) → Lib.lens l ≤ l.length * M
  | [], _ => fo_zl _
  | a :: l, h => by
    have h1 := lens_le l λx hx => h x (fo_mm _ hx)
    have h2 := h a fo_mc
    rw [fo_lc, Nat.succ_mul]
    show (a :: l |>.map List.length).sum ≤ _
    rw [List.map_cons, List.sum_cons]
    have h1 : (l.map List.length).sum ≤ l.length * M := h1
    omega
theorem jnB_size {M : Nat} (l : List ByteArray) (sep : ByteArray) (h : ∀ x ∈ l, x.size ≤ M) : (jnB l sep).size ≤ l.length * (M + sep.size) := by
  cases l with
  | nil => exact fo_zl _
  | cons x r =>
    show (Lib.join ((x :: r).map (·.data.toList)) sep.data.toList).length ≤ _
    rw [List.map_cons, Lib.join_length]
    have h1 : Lib.lens (x.data.toList :: r.map (·.data.toList)) ≤ ((x :: r).map (·.data.toList)).length * M := lens_le (M := M) ((x :: r).map λz : ByteArray => z.data.toList) λy hy => by
      obtain ⟨z, hz, rfl⟩ := List.mem_map.1 hy
      exact h z hz
    rw [List.length_map] at h1 ⊢
    have h2 : sep.data.toList.length = sep.size := rfl
    rw [h2, Nat.mul_add, fo_lc]
    rw [fo_lc] at h1
    have h3 : sep.size * r.length ≤ (r.length + 1) * sep.size := by rw [Nat.mul_comm]; exact Nat.mul_le_mul_right _ (Nat.le_succ _)
    omega
theorem cdV_size (s : ByteArray) : (cdV s).size ≤ 3 * s.size := cdF_size s s.size
theorem fpV_size {l : List Fld} (h : ∀ f ∈ l, f.1.size ≤ 1048576 ∧ f.2.size ≤ 1048576) : ∀ x ∈ fpV l, x.size ≤ 6291457 := by
  intro x hx
  obtain ⟨f, hf, rfl⟩ := List.mem_map.1 hx
  have h1 := cdV_size f.1
  have h2 := cdV_size f.2
  have h3 := h f hf
  rw [fo_sa, fo_sa]
  have : (⟨#[61]⟩ : ByteArray).size = 1 := rfl
  omega
theorem fpV_len (l : List Fld) : (fpV l).length = l.length := List.length_map _
structure FwX where
  l : List Fld
  a : Option Addr
  n : Nat
  c : Nat
abbrev fwC : Con where
  X := FwX
  Y := Unit
  args x := [.slice x.a x.n x.c]
  pre _ := []
  cond x := IsSrc 2 (fCs x.l) x.a x.n ∧ x.n ≤ 1000000 ∧ ∀ f ∈ x.l, f.1.size ≤ 1048576 ∧ f.2.size ≤ 1048576
  rdc x F := Srcd F x.a (fCs x.l)
  rel _ _ := True
  val x _ := .returned (.tuple #[.string (fwV x.l), .int .i64 (fwE x.l)])
  post _ _ := []
  rmono _ _ _ hs h := h.sub hs
structure FwS where
  i : Nat
  r : Row
def fwInv (x : FwX) (F : Atom) : Nat → Option Inv := fun
  | 0 => some { X := FwS, P := λd => d.i ≤ x.l.length ∧ x.l.length ≤ 32 ∧ IsRow 9 1 (strs (fpV (x.l.take d.i))) d.r ∧ d.r.n = d.i, mu := λd => x.l.length - d.i, lv := λd => [(4, .slice d.r.a d.r.n d.r.cap), (11, .slice x.a x.n x.c), (12, .int .i64 x.n), (13, .int .i64 d.i)], st := λd => [F, d.r.A] }
  | _ => none
def q170 (a : FwS) (x : FwX) := a.i ≤ x.l.length ∧ x.l.length ≤ 32 ∧ IsRow 9 1 (strs (fpV (List.take a.i x.l))) a.r ∧ a.r.n = a.i
def T105 := fo_C1 88 cdC q135
theorem fw_vc (x : FwX) (F : Atom) (hc : fwC.cond x) (hr : fwC.rdc x F) :
 fo_Bd ((x.n : Int) > 32) (Done fwC x F (fo_rt (tuple ⟨[fo_vs ⟨#[]⟩, fo_vi 4]⟩)) [(0, F)]) ((∃(a : FwS), q170 a x ∧ (fo_vl none 0 0 = fo_vl a.r.a a.r.n a.r.cap ∧ fo_vl x.a x.n x.c = fo_vl x.a x.n x.c ∧ fo_vi ↑x.n = fo_vi ↑x.n ∧ fo_vi 0 = fo_vi ↑a.i ∧ True) ∧ Ent [(0, F)] [(0, F), (1, a.r.A)]) ∧ fo_vA λ(n : FwS) _ => q170 n x → fo_Bd ((n.i : Int) < (x.n : Int)) (T30 (opIn Tryz.f39 6 0) [fo_vl x.a x.n x.c, fo_vi ↑n.i] (λl => T25 F ⟨l.b, l.o + l.n.toNat * 2, none⟩ (λk => T25 F ⟨l.b, l.o + l.n.toNat * 2 + 1, none⟩ (λj => ∀(i : Nat), fo_sm i 0 ∧ fo_sm i 1 ∧ true = true ∧ fo_sm i 0 ∧ T105 [fo_vs k] (λh g => (cdV h.s).size + 1 ≤ 9223372036854775807 ∧ fo_sm i 1 ∧ T105 [fo_vs j] (λf e => (cdV h.s ++ (ByteArray.mk #[61])).size + (cdV f.s).size ≤ 9223372036854775807 ∧ ∀(d : Nat), T51 (opIn Tryz.f39 7 10) [fo_vl n.r.a n.r.n n.r.cap, fo_vl (q13 d) 1 1] [n.r.A] (fo_aR [(0, F), (1, n.r.A), (6020, fo_cl i (q253 k j) 36), (7090, fo_cl d [fo_vs (cdV h.s ++ (ByteArray.mk #[61]) ++ cdV f.s)] 9)] [1]) (λc b => fo_rI ((n.i : Int) + 1) ∧ ∃(a : FwS), q170 a x ∧ (fo_vl b.a b.n b.cap = fo_vl a.r.a a.r.n a.r.cap ∧ fo_vl x.a x.n x.c = fo_vl x.a x.n x.c ∧ fo_vi ↑x.n = fo_vi ↑x.n ∧ fo_vi ((n.i : Int) + 1) = fo_vi ↑a.i ∧ True) ∧ Ent [(0, F), (1, b.A), (6020, fo_cl i (q253 k j) 36), (7090, fo_cl d [fo_vs (cdV h.s ++ (ByteArray.mk #[61]) ++ cdV f.s)] 9)] [(0, F), (1, a.r.A)] ∧ x.l.length - a.i < x.l.length - n.i))))))) (fo_C2 89 jnC (λb => IsSrc 1 (strs b.xs) b.a b.xs.length ∧ b.xs.length ≤ 4096 ∧ b.xs.length ≤ b.c ∧ (jnB b.xs b.sep).size ≤ 140737488355328) (λb rr => Srcd rr b.a (strs b.xs)) [fo_vl n.r.a n.r.n n.r.cap, fo_vs ⟨#[38]⟩] (fo_aR [(0, F), (1, n.r.A)] []) (λb a => fo_Bd ((↑(jnB b.xs b.sep).size : Int) > 4096) (Done fwC x F (fo_rt (tuple ⟨[fo_vs ⟨#[]⟩, fo_vi 2]⟩)) [(0, F), (1, n.r.A)]) (Done fwC x F (fo_rt (tuple ⟨[fo_vs (jnB b.xs b.sep), fo_vi 0]⟩)) [(0, F), (1, n.r.A)])))) := by
  delta q170 q116 T30 T25 q135 T105 q258 q247 q114 T51 q13 q253 fo_aR fo_sm fo_rI fo_C1 fo_C2 fo_O4 fo_vi fo_vs fo_vl fo_cl fo_Bd fo_rt fo_vA
  obtain ⟨l, a, n, c⟩ := x
  obtain ⟨hsrc, hn, hsz⟩ := hc
  have hr : Srcd F a (fCs l) := hr
  dsimp only at hsrc hn hsz ⊢
  have hnl := hsrc.len
  rw [fCs_length] at hnl
  refine br_decide (λh => ?_) (λh => ?_)
  · refine ⟨(), fo_tv, ?_, Ent.pick [0] rfl rfl⟩
    show _ = returned (.tuple #[.string (fwV l), .int .i64 (fwE l)])
    unfold fwV fwE
    rw [fo_dt (show l.length > 32 by omega)] <;> rfl
  have hl : l.length ≤ 32 := by omega
  refine ⟨⟨⟨0, nilRow⟩, ⟨fo_zl _, hl, .nil rfl, rfl⟩, ⟨rfl, rfl, rfl, rfl, fo_tv⟩, Ent.pick [0, 999] rfl rfl⟩, ?_⟩
  rintro ⟨i, r⟩ js ⟨h1, -, hrow, hrn⟩
  dsimp only at h1 hrow hrn ⊢
  refine br_decide (λhlt => ?_) (λhge => ?_)
  · have hlt : i < l.length := by omega
    obtain ⟨c2, o, rfl⟩ := hsrc.some (by omega)
    obtain ⟨q, hq⟩ : ∃ q, l[i]? = some q := ⟨l[i], fo_ge hlt⟩
    obtain ⟨g1, g2⟩ := fCs_get hq
    have hz := hsz q (fo_mg hq)
    have z1 := cdV_size q.1
    have z2 := cdV_size q.2
    refine ⟨ixq_ok 2 rfl rfl rfl rfl, ⟨c2, o, n, c, i⟩, rfl, ⟨by dsimp only; omega, by dsimp only; omega⟩, q.1, ?_, q.2, ?_, λd => ⟨⟨rfl, rfl⟩, ⟨rfl, rfl⟩, rfl, ⟨rfl, rfl⟩, cd_ok, rfl, ⟨q.1⟩, rfl, rfl, hz.1, fo_tv, λ_ _ => ⟨by dsimp only; omega, ⟨rfl, rfl⟩, cd_ok, rfl, ⟨q.2⟩, rfl, rfl, hz.2, fo_tv, λ_ _ => ⟨?_, λe => ⟨append_ok (P := Tryz.prog) 1 16 rfl rfl rfl rfl rfl rfl rfl (by decide), rfl, ⟨r, strs (fpV (l.take i)), some ⟨e, 0, none⟩, 1, 1, [.string (cdV q.1 ++ ⟨#[61]⟩ ++ cdV q.2)]⟩, rfl, rfl, ⟨hrow, rfl, λu hu => by rw [List.mem_singleton.1 hu] <;> rfl, by dsimp only; omega, by dsimp only; omega, λh => nomatch h⟩, ?_, λr2 h2 => ?_⟩⟩⟩⟩⟩
    · have := Srcd.look hr g1
      dsimp only
      rw [fo_tn, Nat.mul_comm]
      exact this
    · have := Srcd.look hr g2
      dsimp only
      rw [fo_tn, Nat.mul_comm i 2, Nat.add_assoc]
      exact this
    · rw [fo_sa]
      have : (⟨#[61]⟩ : ByteArray).size = 1 := rfl
      dsimp only
      omega
    · intro a ha
      cases ha
      exact Seg.rest (j := 7090) (by simp) (Seg.cells (λj u hj => by rw [fo_za]; exact hj))
    · obtain ⟨k1, k2, -⟩ := h2
      dsimp only at k1 k2
      refine ⟨⟨by omega, by omega⟩, ⟨i + 1, r2⟩, ⟨hlt, hl, ?_, by dsimp only; omega⟩, ⟨rfl, rfl, rfl, rfl, fo_tv⟩, Ent.pick [0, 1] rfl rfl, by dsimp only; omega⟩
      dsimp only
      have e2 : strs (fpV (l.take (i + 1))) = strs (fpV (l.take i)) ++ [.string (cdV q.1 ++ ⟨#[61]⟩ ++ cdV q.2)] := by
        rw [List.take_add_one, hq, Option.toList_some]
        unfold fpV strs
        rw [List.map_append, List.map_append] <;> rfl
      rw [e2]
      exact k1
  · have hi : i = l.length := by omega
    rw [hi, List.take_length] at hrow
    have hsrc2 := hrow.src
    have hle := hrow.le
    have hrn2 : r.n = (fpV l).length := by rw [fpV_len]; omega
    have hb := jnB_size (M := 6291457) (fpV l) ⟨#[38]⟩ (fpV_size hsz)
    rw [fpV_len] at hb
    have hb2 : (jnB (fpV l) ⟨#[38]⟩).size ≤ 32 * (6291457 + 1) := fo_lt hb (Nat.mul_le_mul_right _ hl)
    refine ⟨jn_ok, rfl, ⟨fpV l, r.a, r.cap, ⟨#[38]⟩⟩, by rw [hrn2], rfl, ⟨by rw [← hrn2]; exact hsrc2, by dsimp only; rw [fpV_len]; omega, by dsimp only; omega, by dsimp only; omega⟩, row_srcd 1 (by simp) rfl hrow, λ_ _ => br_decide (λh => ⟨(), fo_tv, ?_, Ent.pick [0] rfl rfl⟩) (λh => ⟨(), fo_tv, ?_, Ent.pick [0] rfl rfl⟩)⟩
    · have h : (fwB l).size > 4096 := by have h : ((fwB l).size : Int) > 4096 := h; omega
      show _ = returned (.tuple #[.string (fwV l), .int .i64 (fwE l)])
      unfold fwV fwE
      rw [fo_df (show ¬ l.length > 32 by omega), fo_dt h] <;> rfl
    · have h : ¬ (fwB l).size > 4096 := by have h : ¬ ((fwB l).size : Int) > 4096 := h; omega
      show _ = returned (.tuple #[.string (fwV l), .int .i64 (fwE l)])
      unfold fwV fwE
      rw [fo_df (show ¬ l.length > 32 by omega), fo_df h] <;> rfl
theorem fw_ok : fo_k 39 fwC := fo 35 Tryz.func39 (λ_ _ => [(6, 0, .qo (ixQ 2)), (6, 1, .q [.ex 0 .str, .ex 0 .str]), (6, 2, .n 6020), (6, 3, .w [.aq 6020, .aq 6020]), (7, 2, .q [.aq 6020]), (7, 3, .c cdC [] []), (7, 6, .q [.aq 6020]), (7, 7, .c cdC [] []), (7, 9, .n 7090), (7, 10, .o (apC 9 1 16) [1] [1]), (9, 1, .c jnC [] [])]) [] fwInv fo_i fo_o [] fw_vc
end
end Go.Proofs.YtjdabjmjldiodaaGreatDoor
