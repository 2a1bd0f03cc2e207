/- Clone. -/
import Derived.Test.YtkmdgnbfojkcnaaLatJ
set_option linter.all false
namespace Go.Proofs.Ytkmdgnbfojkcnaa
open Go
set_option maxHeartbeats 1000000
theorem subO_pre (As Bs : List Atom) : SubO (bagA As) (bagA (As ++ Bs)) := fun I w o h => by
  obtain ⟨f, h1, h2, h3⟩ := h
  refine ⟨fun b => ∃ j, j < As.length ∧ f j b, ⟨fun j b => j < As.length ∧ f j b, fun j => ?_, fun i j b hi hj => h2 i j b hi.2 hj.2, fun j b hb => ⟨j, hb⟩⟩, fun b ⟨j, _, hb⟩ => h3 j b hb⟩
  have h1 := h1 j
  have e1 : gt (clr [] (ofL (As ++ Bs))) j = (As ++ Bs).getD j .emp := gt_ofL _ _
  have e2 : gt (clr [] (ofL As)) j = As.getD j .emp := gt_ofL _ _
  rw [e1] at h1
  rw [e2]
  by_cases hj : j < As.length
  · have e : (fun b => j < As.length ∧ f j b) = f j := by funext b; simp [hj]
    show Atom.holds I w (fun b => j < As.length ∧ f j b) _
    rw [e]
    rw [List.getD_eq_getElem?_getD, List.getElem?_append_left hj, ← List.getD_eq_getElem?_getD] at h1
    exact h1
  · rw [List.getD_eq_getElem?_getD, List.getElem?_eq_none (by omega)]
    trivial
structure LdX where
  k : Int
  s : Sl
  body : ByteArray
  ys : List Value
def ldC : Con where
  X := LdX
  Y := Row
  args x := [.agg #[.int .i64 x.k, .slice x.s.a x.s.n x.s.cap, .string x.body]]
  pre _ := []
  cond x := IsSrc 2 x.ys x.s.a x.s.n ∧ (∀ u ∈ x.ys, u.oneCell' = true) ∧ x.s.n * 32 ≤ 140737488351232 ∧ (x.s.a = none → x.s.cap = 0)
  rdc x F := Srcd F x.s.a x.ys
  rel x r := IsRow 115 2 x.ys r ∧ r.n = x.s.n
  val x r := .returned (.agg #[.int .i64 x.k, .slice r.a r.n r.cap, .string x.body])
  post _ r := [r.A]
  rmono _ _ _ h hk := hk.sub h
def at3 (j : Nat) : List LH := [.atj j, .atj j, .atj j]
def ldOv (_x : LdX) (_F : Atom) : List (Nat × Nat × OH) := [(0, 0, .n 1000), (0, 1, .n 1010), (1, 1, .q [.atj 1000]), (1, 2, .c (clnRC 115 2 32) [] [2020]), (1, 4, .w [.atj 1000]), (2, 0, .q (at3 1000)), (2, 1, .w (at3 1010))]
/-- A row in the middle of being made over. -/
def RwP {α : Type} (e w Bw : Nat) (P Q : List Value → α → Prop) (r : Row) (raw : List (List Value)) (xs : List α) (k : Nat) : Prop := IsRow e w raw.flatten r ∧ r.n * Bw ≤ 140737488351232 ∧ k ≤ r.n ∧ r.n = xs.length ∧ Mx P Q w k raw xs
def RwQ {α : Type} (w Bw : Nat) (P Q : List Value → α → Prop) (n cap : Nat) (raw : List (List Value)) (sp : List Value) (xs : List α) (k : Nat) : Prop := (raw.flatten ++ sp).length = cap * w ∧ n ≤ cap ∧ n * Bw ≤ 140737488351232 ∧ k < n ∧ n = xs.length ∧ Mx P Q w k raw xs
theorem SlIn.cl {α : Type} {F : Atom} {R : List Value → α → Prop} {k Bw : Nat} {v : Value} {xs : List α} (h : SlIn F R k Bw v xs) (h1 : ∀ r x, R r x → ∀ u ∈ r, u.oneCell' = true) :
    ∃ z : ClrX, v = .slice z.a z.n z.cap ∧ (IsSrc k z.ys z.a z.n ∧ (∀ u ∈ z.ys, u.oneCell' = true) ∧ z.n * Bw ≤ 140737488351232 ∧ (z.a = none → z.cap = 0)) ∧ Srcd F z.a z.ys ∧ ∀ (e : Nat) (r : Row), IsRow e k z.ys r ∧ r.n = z.n → ∀ G, SubO r.A G → SlOw G e k Bw R r.sl xs := by
  obtain ⟨a, n, cap, raw0, rfl, -⟩ := id h
  obtain ⟨raw, g1, g2, g3, g4, g5, g6⟩ := h.cln h1
  exact ⟨⟨a, n, cap, raw.flatten⟩, rfl, g5, g6, fun e r hr G hG => ⟨r, raw, rfl, hr.1, hG, by rw [hr.2]; exact g4, by rw [hr.2]; exact g1, g2, g3⟩⟩
theorem rw_start {α : Type} {F : Atom} {Q : List Value → α → Prop} {w Bw : Nat} {a : Option Addr} {n cap : Nat} {xs : List α} (h : SlIn F Q w Bw (.slice a n cap) xs) (h1 : ∀ r x, Q r x → ∀ u ∈ r, u.oneCell' = true) :
    ∃ raw : List (List Value), (IsSrc w raw.flatten a n ∧ (∀ u ∈ raw.flatten, u.oneCell' = true) ∧ n * Bw ≤ 140737488351232 ∧ (a = none → cap = 0)) ∧ Srcd F a raw.flatten ∧ ∀ (e : Nat) (P : List Value → α → Prop) (r : Row), IsRow e w raw.flatten r ∧ r.n = n → RwP e w Bw P Q r raw xs 0 := by
  obtain ⟨raw, g1, g2, g3, g4, g5, g6⟩ := h.cln h1
  exact ⟨raw, g5, g6, fun e P r hr => ⟨hr.1, by rw [hr.2]; exact g4, Nat.zero_le _, by rw [hr.2, ← g3.len, g1], Mx.start g2 g5.2.1 g3⟩⟩
theorem rw_enter {α : Type} {e w Bw : Nat} {P Q : List Value → α → Prop} {r : Row} {raw : List (List Value)} {xs : List α} {k : Nat} (h : RwP e w Bw P Q r raw xs k) (hk : k < r.n) :
    ∃ b n cap sp, r = ⟨some ⟨b, 0, none⟩, n, cap, .cells b (raw.flatten ++ sp) e⟩ ∧ RwQ w Bw P Q n cap raw sp xs k := by
  obtain ⟨h1, h2, h3, h4, h5⟩ := h
  cases h1 with
  | nil _ => exact absurd hk (Nat.not_lt_zero k)
  | blk b n cap sp hl hs hn => exact ⟨b, n, cap, sp, rfl, hs, hn, h2, hk, h4, h5⟩
theorem rw_row {α : Type} {w Bw : Nat} {P Q : List Value → α → Prop} {n cap : Nat} {raw : List (List Value)} {sp : List Value} {xs : List α} {k : Nat} (h : RwQ w Bw P Q n cap raw sp xs k) :
    ∃ row x, raw[k]? = some row ∧ xs[k]? = some x ∧ Q row x ∧ k * w + w ≤ (raw.flatten ++ sp).length := by
  obtain ⟨h1, h2, h3, h4, h5, h6⟩ := h
  have hl := h6.len
  refine ⟨_, _, List.getElem?_eq_getElem (show k < raw.length by omega), List.getElem?_eq_getElem (show k < xs.length by omega), h6.hi k _ _ (Nat.le_refl k) (List.getElem?_eq_getElem _) (List.getElem?_eq_getElem _), ?_⟩
  rw [h1, ← Nat.succ_mul]
  exact Nat.mul_le_mul_right w (by omega)
theorem rw_step {α : Type} {e w Bw : Nat} {P P' Q : List Value → α → Prop} {n cap : Nat} {raw : List (List Value)} {sp : List Value} {xs : List α} {k : Nat} {row : List Value} {x : α} (h : RwQ w Bw P Q n cap raw sp xs k) (hr : raw[k]? = some row) (hx : xs[k]? = some x) (ws : List (Nat × Value)) (hw : ∀ p ∈ ws, p.1 < w)
    (h1 : ∀ u ∈ wr1 row ws, u.oneCell' = true) (hP : ∀ r x, P r x → P' r x) (hP' : P' (wr1 row ws) x) (b : Nat) : RwP e w Bw P' Q ⟨some ⟨b, 0, none⟩, n, cap, .cells b (wrs k w (raw.flatten ++ sp) ws) e⟩ (raw.set k (wr1 row ws)) xs (k + 1) := by
  obtain ⟨g1, g2, g3, g4, g5, g6⟩ := h
  have hl : (wr1 row ws).length = w := by
    have : ∀ (ws : List (Nat × Value)) (r : List Value), (wr1 r ws).length = r.length := by
      intro ws
      induction ws with
      | nil => intro r; rfl
      | cons w ws ih => intro r; show (wr1 (r.set w.1 w.2) ws).length = _; rw [ih, List.length_set]
    rw [this]; exact g6.wid row (List.mem_of_getElem? hr)
  have hM := g6.step hP hx hl h1 hP'
  refine ⟨?_, g3, g4, g5, hM⟩
  have hsr := sets_row (sp := sp) ws g6.wid hr hw
  have hlen : ((raw.set k (wr1 row ws)).flatten ++ sp).length = cap * w := by rw [← hsr, sets_len]; exact g1
  have := row_cells (e := e) (b := b) hM.wid (n := n) (by rw [hM.len]; exact g5.symm) hlen g2
  rw [← hsr] at this
  exact this
theorem rw_end {α : Type} {e w Bw : Nat} {P P' Q : List Value → α → Prop} {r : Row} {raw : List (List Value)} {xs : List α} {k : Nat} (h : RwP e w Bw P Q r raw xs k) (hk : ¬ k < r.n) {G : Atom} (hG : SubO r.A G) (hP : ∀ r x, P r x → P' r x) : SlOw G e w Bw P' r.sl xs := by
  obtain ⟨h1, h2, h3, h4, h5⟩ := h
  exact ⟨r, raw, rfl, h1, hG, h2, by rw [h5.len]; exact h4.symm, h5.wid, (h5.mono hP).all (by omega)⟩
def sl0 : Sl := ⟨none, 0, 0⟩
noncomputable def ld_H (x : Con.X ldC) (F : Atom) : Hints where
  op := hk ((ldOv x F) ++ [])
  inv := (fun _ _ _ => none) x F
  cut := (fun _ _ _ => none) x F
  ord := (fun _ => [])
open Go.Value (int slice string bool pointer agg tuple func) in
open Go.IntKind (i64) in
set_option maxRecDepth 100000 in
theorem ld_vc (x : LdX) (F : Atom) (hc : Con.cond ldC x) (hr : Con.rdc ldC x F) :
  ∀ (b b_1 : Nat),
 Same ⟨b, 1, none⟩ b ∧
 FnOk Try.prog 104 (clnRC 115 2 32) ∧
 true = true ∧
 ∃ (x_1 : ClrX),
 [slice x.s.a x.s.n x.s.cap] = [slice x_1.a x_1.n x_1.cap] ∧
 ([] : List Atom) = [] ∧
 (IsSrc 2 x_1.ys x_1.a x_1.n ∧ (∀ (u : Value), u ∈ x_1.ys → u.oneCell' = true) ∧ x_1.n * 32 ≤ 140737488351232 ∧ (x_1.a = none → x_1.cap = 0)) ∧
 Srcd (Atom.pred (rest [(0, F), (1000, Atom.cells b [int i64 x.k, slice x.s.a x.s.n x.s.cap, string x.body] 59), (1010, Atom.cells b_1 [int i64 (0 : Int), slice none 0 0, string (ByteArray.mk #[])] 59)] [])) x_1.a x_1.ys ∧
 ∀ (y : Row), IsRow 115 2 x_1.ys y ∧ y.n = x_1.n → Same ⟨b, 1, none⟩ b ∧ Same ⟨b, 0, none⟩ b ∧ Same ⟨b, 1, none⟩ b ∧ Same ⟨b, 2, none⟩ b ∧ Same ⟨b_1, 0, none⟩ b_1 ∧ Same ⟨b_1, 1, none⟩ b_1 ∧ Same ⟨b_1, 2, none⟩ b_1 ∧ Same ⟨b_1, 0, none⟩ b_1 ∧ Same ⟨b_1, 1, none⟩ b_1 ∧ Same ⟨b_1, 2, none⟩ b_1 ∧ Done ldC x F (Ending.returned (agg { toList := [int i64 x.k, slice y.a y.n y.cap, string x.body] })) [(0, F), (1000, Atom.cells b [int i64 x.k, slice y.a y.n y.cap, string x.body] 59), (1010, Atom.cells b_1 [int i64 x.k, slice y.a y.n y.cap, string x.body] 59), (2020, y.A)] := by
  obtain ⟨k, s, body, ys⟩ := x
  intro b b1
  exact ⟨⟨rfl, rfl⟩, clnP_ok, rfl, ⟨s.a, s.n, s.cap, ys⟩, rfl, rfl, hc, Srcd.sub (sub_rest 0 (by simp) rfl) hr, fun y hy => ⟨⟨rfl, rfl⟩, ⟨rfl, rfl⟩, ⟨rfl, rfl⟩, ⟨rfl, rfl⟩, ⟨rfl, rfl⟩, ⟨rfl, rfl⟩, ⟨rfl, rfl⟩, ⟨rfl, rfl⟩, ⟨rfl, rfl⟩, ⟨rfl, rfl⟩, y, hy, rfl, Ent.pick [2020, 0] rfl rfl⟩⟩
set_option maxRecDepth 100000 in
theorem ld_ok : FnOk Try.prog 70 ldC :=
  fnOk (N := 8) (by kernel_rfl) Try.func70 rfl (by kernel_rfl) (fun _ => Nat.le_of_ble_eq_true rfl) ld_H (at3 1010) fun x F hc hr => Eq.mpr (by kernel_rfl) (ld_vc x F hc hr)
structure ClnCX where
  c : ChD
  w : ChS
structure ClnCY where
  G : Atom
  w : ChS
def chAgg (c : ChD) (w : ChS) : Value := .agg #[.string c.name, .bool c.late, .int .i64 c.script, .slice w.vs.a w.vs.n w.vs.cap, .slice w.vt.a w.vt.n w.vt.cap, .slice w.vb.a w.vb.n w.vb.cap, .slice w.vd.a w.vd.n w.vd.cap, .slice w.vi.a w.vi.n w.vi.cap]
def cloneC : Con where
  X := ClnCX
  Y := ClnCY
  args x := [.agg #[.string x.c.name, .bool x.c.late, .int .i64 x.c.script, .slice x.w.vs.a x.w.vs.n x.w.vs.cap, .slice x.w.vt.a x.w.vt.n x.w.vt.cap, .slice x.w.vb.a x.w.vb.n x.w.vb.cap, .slice x.w.vd.a x.w.vd.n x.w.vd.cap, .slice x.w.vi.a x.w.vi.n x.w.vi.cap]]
  pre _ := []
  cond x := True
  rdc x F := ChIn F x.w.v x.c
  rel x y := ChOw y.G y.w x.c
  val x y := .returned (.agg #[.string x.c.name, .bool x.c.late, .int .i64 x.c.script, .slice y.w.vs.a y.w.vs.n y.w.vs.cap, .slice y.w.vt.a y.w.vt.n y.w.vt.cap, .slice y.w.vb.a y.w.vb.n y.w.vb.cap, .slice y.w.vd.a y.w.vd.n y.w.vd.cap, .slice y.w.vi.a y.w.vi.n y.w.vi.cap])
  post _ y := [y.G]
  rmono _ _ _ h hk := hk.sub h
def chS5 (c : ChD) (v1 v2 v3 v4 v5 : Value) : List Value := [.string c.name, .bool c.late, .int .i64 c.script, v1, v2, v3, v4, v5]
def zch : List Value := [.string .empty, .bool false, .int .i64 0, .slice none 0 0, .slice none 0 0, .slice none 0 0, .slice none 0 0, .slice none 0 0]
structure CpI where
  b1 : Nat
  b2 : Nat
  s1 : Sl
  s2 : Sl
  s3 : Sl
  s4 : Sl
  k : Nat
  r : Row
  raw : List (List Value)
  G : Atom
structure CpJ where
  b1 : Nat
  b2 : Nat
  s1 : Sl
  s2 : Sl
  s3 : Sl
  s4 : Sl
  k : Nat
  b3 : Nat
  n : Nat
  cap : Nat
  raw : List (List Value)
  sp : List Value
  G : Atom
structure CpK where
  b1 : Nat
  b2 : Nat
  s1 : Sl
  s2 : Sl
  k : Nat
  b3 : Nat
  n : Nat
  cap : Nat
  raw : List (List Value)
  sp : List Value
  G : Atom
  xs : List ActD
  k2 : Nat
  r2 : Row
  raw2 : List (List Value)
structure CpL where
  b1 : Nat
  b2 : Nat
  s1 : Sl
  s2 : Sl
  k : Nat
  b3 : Nat
  n : Nat
  cap : Nat
  raw : List (List Value)
  sp : List Value
  G : Atom
  xs : List ActD
  k2 : Nat
  b4 : Nat
  n2 : Nat
  cap2 : Nat
  raw2 : List (List Value)
  sp2 : List Value
def cpInv (x : ClnCX) (F : Atom) : Nat → Option Inv := fun
  | 0 => some { X := CpI, P := fun i => RwP 61 13 232 (StOw i.G) (StIn F) i.r i.raw x.c.sts i.k, mu := fun i => x.c.sts.length - i.k, lv := fun i => [(1, .pointer (some ⟨i.b1, 0, none⟩)), (2, .pointer (some ⟨i.b2, 0, none⟩)), (16, .int .i64 i.r.n), (17, .int .i64 i.k)], st := fun i => [F, .cells i.b1 (chS5 x.c i.r.v x.w.vt.v x.w.vb.v x.w.vd.v x.w.vi.v) 28, .cells i.b2 zch 28, i.r.A, i.G] }
  | 2 => some { X := CpI, P := fun i => SlOw i.G 61 13 232 (StOw i.G) i.s1 x.c.sts ∧ RwP 76 6 88 (TrOw i.G) (TrIn F) i.r i.raw x.c.trs i.k, mu := fun i => x.c.trs.length - i.k, lv := fun i => [(1, .pointer (some ⟨i.b1, 0, none⟩)), (2, .pointer (some ⟨i.b2, 0, none⟩)), (87, .int .i64 i.r.n), (88, .int .i64 i.k)], st := fun i => [F, .cells i.b1 (chS5 x.c i.s1.v i.r.v x.w.vb.v x.w.vd.v x.w.vi.v) 28, .cells i.b2 zch 28, i.r.A, i.G] }
  | 4 => some { X := CpI, P := fun i => SlOw i.G 61 13 232 (StOw i.G) i.s1 x.c.sts ∧ SlOw i.G 76 6 88 (TrOw i.G) i.s2 x.c.trs ∧ RwP 93 1 24 (BlkOw i.G) (BlkIn F) i.r i.raw x.c.blks i.k, mu := fun i => x.c.blks.length - i.k, lv := fun i => [(1, .pointer (some ⟨i.b1, 0, none⟩)), (2, .pointer (some ⟨i.b2, 0, none⟩)), (122, .int .i64 i.r.n), (123, .int .i64 i.k)], st := fun i => [F, .cells i.b1 (chS5 x.c i.s1.v i.s2.v i.r.v x.w.vd.v x.w.vi.v) 28, .cells i.b2 zch 28, i.r.A, i.G] }
  | 6 => some { X := CpK, P := fun i => SlOw i.G 61 13 232 (StOw i.G) i.s1 x.c.sts ∧ SlOw i.G 76 6 88 (TrOw i.G) i.s2 x.c.trs ∧ RwQ 1 24 (BlkOw i.G) (BlkIn F) i.n i.cap i.raw i.sp x.c.blks i.k ∧ x.c.blks[i.k]? = some i.xs ∧ RwP 96 19 304 (ActOw i.G) (ActIn F) i.r2 i.raw2 i.xs i.k2, gh := some ⟨Nat, fun i => i.k⟩, mu := fun i => i.r2.n - i.k2, lv := fun i => [(1, .pointer (some ⟨i.b1, 0, none⟩)), (2, .pointer (some ⟨i.b2, 0, none⟩)), (6, .int .i64 i.k), (7, .slice i.r2.a i.r2.n i.r2.cap), (122, .int .i64 i.n), (123, .int .i64 i.k), (134, .int .i64 i.r2.n), (135, .int .i64 i.k2)], st := fun i => [F, .cells i.b1 (chS5 x.c i.s1.v i.s2.v (.slice (some ⟨i.b3, 0, none⟩) i.n i.cap) x.w.vd.v x.w.vi.v) 28, .cells i.b2 zch 28, .cells i.b3 (i.raw.flatten ++ i.sp) 93, i.r2.A, i.G] }
  | 8 => some { X := CpI, P := fun i => SlOw i.G 61 13 232 (StOw i.G) i.s1 x.c.sts ∧ SlOw i.G 76 6 88 (TrOw i.G) i.s2 x.c.trs ∧ SlOw i.G 93 1 24 (BlkOw i.G) i.s3 x.c.blks ∧ SlOw i.G 98 3 48 DatIn i.s4 x.c.data ∧ RwP 101 8 104 (InvOw i.G) (InvIn F) i.r i.raw x.c.invs i.k, mu := fun i => x.c.invs.length - i.k, lv := fun i => [(1, .pointer (some ⟨i.b1, 0, none⟩)), (2, .pointer (some ⟨i.b2, 0, none⟩)), (186, .int .i64 i.r.n), (187, .int .i64 i.k)], st := fun i => [F, .cells i.b1 (chS5 x.c i.s1.v i.s2.v i.s3.v i.s4.v i.r.v) 28, .cells i.b2 zch 28, i.r.A, i.G] }
  | _ => none
def cpCut (x : ClnCX) (F : Atom) : Nat → Option Inv := fun
  | 6 => some { X := CpJ, P := fun i => RwQ 13 232 (StOw i.G) (StIn F) i.n i.cap i.raw i.sp x.c.sts i.k, gh := some ⟨Nat, fun i => i.k⟩, mu := fun _ => 0, lv := fun i => [(1, .pointer (some ⟨i.b1, 0, none⟩)), (2, .pointer (some ⟨i.b2, 0, none⟩)), (4, .pointer (some ⟨i.b3, i.k * 13, none⟩)), (16, .int .i64 i.n), (17, .int .i64 i.k)], st := fun i => [F, .cells i.b1 (chS5 x.c (.slice (some ⟨i.b3, 0, none⟩) i.n i.cap) x.w.vt.v x.w.vb.v x.w.vd.v x.w.vi.v) 28, .cells i.b2 zch 28, .cells i.b3 (i.raw.flatten ++ i.sp) 61, i.G] }
  | 14 => some { X := CpJ, P := fun i => SlOw i.G 61 13 232 (StOw i.G) i.s1 x.c.sts ∧ RwQ 6 88 (TrOw i.G) (TrIn F) i.n i.cap i.raw i.sp x.c.trs i.k, gh := some ⟨Nat, fun i => i.k⟩, mu := fun _ => 0, lv := fun i => [(1, .pointer (some ⟨i.b1, 0, none⟩)), (2, .pointer (some ⟨i.b2, 0, none⟩)), (5, .int .i64 i.k), (87, .int .i64 i.n), (88, .int .i64 i.k)], st := fun i => [F, .cells i.b1 (chS5 x.c i.s1.v (.slice (some ⟨i.b3, 0, none⟩) i.n i.cap) x.w.vb.v x.w.vd.v x.w.vi.v) 28, .cells i.b2 zch 28, .cells i.b3 (i.raw.flatten ++ i.sp) 76, i.G] }
  | 20 => some { X := CpJ, P := fun i => SlOw i.G 61 13 232 (StOw i.G) i.s1 x.c.sts ∧ SlOw i.G 76 6 88 (TrOw i.G) i.s2 x.c.trs ∧ RwQ 1 24 (BlkOw i.G) (BlkIn F) i.n i.cap i.raw i.sp x.c.blks i.k, gh := some ⟨Nat, fun i => i.k⟩, mu := fun _ => 0, lv := fun i => [(1, .pointer (some ⟨i.b1, 0, none⟩)), (2, .pointer (some ⟨i.b2, 0, none⟩)), (6, .int .i64 i.k), (122, .int .i64 i.n), (123, .int .i64 i.k)], st := fun i => [F, .cells i.b1 (chS5 x.c i.s1.v i.s2.v (.slice (some ⟨i.b3, 0, none⟩) i.n i.cap) x.w.vd.v x.w.vi.v) 28, .cells i.b2 zch 28, .cells i.b3 (i.raw.flatten ++ i.sp) 93, i.G] }
  | 24 => some { X := CpL, P := fun i => SlOw i.G 61 13 232 (StOw i.G) i.s1 x.c.sts ∧ SlOw i.G 76 6 88 (TrOw i.G) i.s2 x.c.trs ∧ RwQ 1 24 (BlkOw i.G) (BlkIn F) i.n i.cap i.raw i.sp x.c.blks i.k ∧ x.c.blks[i.k]? = some i.xs ∧ RwQ 19 304 (ActOw i.G) (ActIn F) i.n2 i.cap2 i.raw2 i.sp2 i.xs i.k2, gh := some ⟨Nat × Nat × Nat, fun i => (i.k, i.n2, i.k2)⟩, mu := fun _ => 0, lv := fun i => [(1, .pointer (some ⟨i.b1, 0, none⟩)), (2, .pointer (some ⟨i.b2, 0, none⟩)), (6, .int .i64 i.k), (7, .slice (some ⟨i.b4, 0, none⟩) i.n2 i.cap2), (8, .int .i64 i.k2), (122, .int .i64 i.n), (123, .int .i64 i.k), (134, .int .i64 i.n2), (135, .int .i64 i.k2)], st := fun i => [F, .cells i.b1 (chS5 x.c i.s1.v i.s2.v (.slice (some ⟨i.b3, 0, none⟩) i.n i.cap) x.w.vd.v x.w.vi.v) 28, .cells i.b2 zch 28, .cells i.b3 (i.raw.flatten ++ i.sp) 93, .cells i.b4 (i.raw2.flatten ++ i.sp2) 96, i.G] }
  | 33 => some { X := CpJ, P := fun i => SlOw i.G 61 13 232 (StOw i.G) i.s1 x.c.sts ∧ SlOw i.G 76 6 88 (TrOw i.G) i.s2 x.c.trs ∧ SlOw i.G 93 1 24 (BlkOw i.G) i.s3 x.c.blks ∧ SlOw i.G 98 3 48 DatIn i.s4 x.c.data ∧ RwQ 8 104 (InvOw i.G) (InvIn F) i.n i.cap i.raw i.sp x.c.invs i.k, gh := some ⟨Nat, fun i => i.k⟩, mu := fun _ => 0, lv := fun i => [(1, .pointer (some ⟨i.b1, 0, none⟩)), (2, .pointer (some ⟨i.b2, 0, none⟩)), (9, .int .i64 i.k), (186, .int .i64 i.n), (187, .int .i64 i.k)], st := fun i => [F, .cells i.b1 (chS5 x.c i.s1.v i.s2.v i.s3.v i.s4.v (.slice (some ⟨i.b3, 0, none⟩) i.n i.cap)) 28, .cells i.b2 zch 28, .cells i.b3 (i.raw.flatten ++ i.sp) 101, i.G] }
  | _ => none
def ex3 (j : Nat) : List LH := [.ex j (.int .i64), .ex j .slice, .ex j .str]
def an3 (j : Nat) : List LH := [.ex j .any, .ex j .any, .ex j .any]
def cpOv (_x : ClnCX) (_F : Atom) : List (Nat × Nat × OH) := [(0, 0, .n 1000), (0, 1, .n 1010), (1, 1, .q [.atj 1000]), (1, 2, .c (clnRC 61 13 232) [] [2020]), (1, 4, .w [.atj 1000]), (2, 1, .q [.atj 1000]), (5, 1, .q [.atj 1]), (5, 3, .qo (ixQ 13)),
  (6, 6, .q [.ex 3 .slice]), (6, 7, .c (clnRC 3 1 8) [] [7070]), (6, 11, .q [.ex 3 .slice]), (6, 12, .c (clnRC 3 1 8) [] [7120]), (6, 16, .q [.ex 3 .slice]), (6, 17, .c (clnRC 3 1 8) [] [7170]), (6, 20, .w [.ex 3 .any]), (6, 23, .w [.ex 3 .any]), (6, 26, .w [.ex 3 .any]),
  (7, 6, .q [.ex 3 .slice]), (7, 7, .c (clnRC 3 1 8) [] [8070]), (7, 11, .q [.ex 3 .slice]), (7, 12, .c (clnRC 3 1 8) [] [8120]), (7, 16, .q [.ex 3 .slice]), (7, 17, .c (clnRC 3 1 8) [] [8170]), (7, 20, .w [.ex 3 .any]), (7, 23, .w [.ex 3 .any]), (7, 26, .w [.ex 3 .any]),
  (8, 4, .q (ex3 3)), (8, 5, .c ldC [] [9050]), (8, 8, .w (an3 3)),
  (10, 1, .q [.atj 1]), (10, 2, .c (clnRC 76 6 88) [] [11020]), (10, 4, .w [.atj 1]), (11, 1, .q [.atj 1]),
  (14, 1, .q [.atj 1]), (14, 4, .q [.atj 1]), (14, 7, .q [.atj 1]), (14, 11, .q [.ex 3 .slice]), (14, 12, .c (clnRC 9 1 16) [] [15120]), (14, 14, .q [.atj 1]), (14, 18, .q [.ex 3 .slice]), (14, 19, .c (clnRC 3 1 8) [] [15190]), (14, 22, .w [.ex 3 .any]), (14, 25, .w [.ex 3 .any]),
  (16, 1, .q [.atj 1]), (16, 2, .c (clnRC 93 1 24) [] [17020]), (16, 4, .w [.atj 1]), (17, 1, .q [.atj 1]),
  (20, 1, .q [.atj 1]), (20, 5, .q [.ex 3 .slice]), (20, 6, .c (clnRC 96 19 304) [] [21060]),
  (24, 10, .q [.ex 4 .slice]), (24, 11, .c (clnRC 9 1 16) [] [25110]), (24, 16, .q [.ex 4 .slice]), (24, 17, .c (clnRC 3 1 8) [] [25170]), (24, 22, .q (ex3 4)), (24, 23, .c ldC [] [25230]), (24, 26, .w [.ex 4 .any]), (24, 29, .w [.ex 4 .any]), (24, 32, .w (an3 4)),
  (26, 1, .q [.atj 1]), (26, 6, .w [.ex 3 .any]),
  (28, 1, .q [.atj 1]), (28, 2, .c (clnRC 98 3 48) [] [29020]), (28, 4, .w [.atj 1]), (29, 1, .q [.atj 1]), (29, 2, .c (clnRC 101 8 104) [] [30020]), (29, 4, .w [.atj 1]), (30, 1, .q [.atj 1]),
  (33, 1, .q [.atj 1]), (33, 4, .q [.atj 1]), (33, 8, .q (ex3 3)), (33, 9, .c ldC [] [34090]), (33, 12, .w (an3 3)),
  (35, 0, .q (at8 1)), (35, 1, .w (at8 2))]
noncomputable def clone_H (x : Con.X cloneC) (F : Atom) : Hints where
  op := hk ((cpOv x F) ++ [])
  inv := cpInv x F
  cut := cpCut x F
  ord := (fun _ => [])
open Go.Value (int slice string bool pointer agg tuple func) in
open Go.IntKind (i64) in
set_option maxRecDepth 100000 in
theorem clone_vc (x : ClnCX) (F : Atom) (hc : Con.cond cloneC x) (hr : Con.rdc cloneC x F) :
  ∀ (b b_1 : Nat),
 Same ⟨b, 3, none⟩ b ∧
 FnOk Try.prog 69 (clnRC 61 13 232) ∧
 true = true ∧
 ∃ (x_1 : ClrX),
 [slice x.w.vs.a x.w.vs.n x.w.vs.cap] = [slice x_1.a x_1.n x_1.cap] ∧
 ([] : List Atom) = [] ∧
 (IsSrc 13 x_1.ys x_1.a x_1.n ∧ (∀ (u : Value), u ∈ x_1.ys → u.oneCell' = true) ∧ x_1.n * 232 ≤ 140737488351232 ∧ (x_1.a = none → x_1.cap = 0)) ∧
 Srcd (Atom.pred (rest [(0, F), (1000, Atom.cells b [string x.c.name, bool x.c.late, int i64 x.c.script, slice x.w.vs.a x.w.vs.n x.w.vs.cap, slice x.w.vt.a x.w.vt.n x.w.vt.cap, slice x.w.vb.a x.w.vb.n x.w.vb.cap, slice x.w.vd.a x.w.vd.n x.w.vd.cap, slice x.w.vi.a x.w.vi.n x.w.vi.cap] 28), (1010, Atom.cells b_1 [string (ByteArray.mk #[]), bool false, int i64 (0 : Int), slice none 0 0, slice none 0 0, slice none 0 0, slice none 0 0, slice none 0 0] 28)] [])) x_1.a x_1.ys ∧
 ∀ (y : Row),
 IsRow 61 13 x_1.ys y ∧ y.n = x_1.n →
 Same ⟨b, 3, none⟩ b ∧
 Same ⟨b, 3, none⟩ b ∧
 (∃ (x_2 : CpI),
 RwP 61 13 232 (StOw x_2.G) (StIn F) x_2.r x_2.raw x.c.sts x_2.k ∧
 (pointer (some ⟨b, 0, none⟩) = pointer (some ⟨x_2.b1, 0, none⟩) ∧ pointer (some ⟨b_1, 0, none⟩) = pointer (some ⟨x_2.b2, 0, none⟩) ∧ int i64 (↑y.n : Int) = int i64 (↑x_2.r.n : Int) ∧ int i64 (0 : Int) = int i64 (↑x_2.k : Int) ∧ True) ∧
 Ent [(0, F), (1000, Atom.cells b [string x.c.name, bool x.c.late, int i64 x.c.script, slice y.a y.n y.cap, slice x.w.vt.a x.w.vt.n x.w.vt.cap, slice x.w.vb.a x.w.vb.n x.w.vb.cap, slice x.w.vd.a x.w.vd.n x.w.vd.cap, slice x.w.vi.a x.w.vi.n x.w.vi.cap] 28), (1010, Atom.cells b_1 [string (ByteArray.mk #[]), bool false, int i64 (0 : Int), slice none 0 0, slice none 0 0, slice none 0 0, slice none 0 0, slice none 0 0] 28), (2020, y.A)]
 [(0, F), (1, Atom.cells x_2.b1 [string x.c.name, bool x.c.late, int i64 x.c.script, slice x_2.r.a x_2.r.n x_2.r.cap, slice x.w.vt.a x.w.vt.n x.w.vt.cap, slice x.w.vb.a x.w.vb.n x.w.vb.cap, slice x.w.vd.a x.w.vd.n x.w.vd.cap, slice x.w.vi.a x.w.vi.n x.w.vi.cap] 28), (2, Atom.cells x_2.b2 [string ByteArray.empty, bool false, int i64 (0 : Int), slice none 0 0, slice none 0 0, slice none 0 0, slice none 0 0, slice none 0 0] 28), (3, x_2.r.A), (4, x_2.G)]) ∧
 ∀ (x_2 : CpI) (js : Nat → Value),
 RwP 61 13 232 (StOw x_2.G) (StIn F) x_2.r x_2.raw x.c.sts x_2.k →
 Br (decide ((↑x_2.k : Int) < (↑x_2.r.n : Int)))
 (∃ (n : Nat),
 (Same ⟨x_2.b1, 3, none⟩ x_2.b1 ∧
 QOpOk Try.prog (opIn Try.f36 5 3) (ixQ 13) ∧
 ∃ (x_3 : IxQX),
 [slice x_2.r.a x_2.r.n x_2.r.cap, int i64 (↑x_2.k : Int)] = [slice (some ⟨x_3.b, x_3.o, none⟩) x_3.len x_3.cap, int i64 x_3.n] ∧
 ((0 : Int) ≤ x_3.n ∧ x_3.n < (↑x_3.len : Int)) ∧
 ∃ (x_4 : CpJ),
 (RwQ 13 232 (StOw x_4.G) (StIn F) x_4.n x_4.cap x_4.raw x_4.sp x.c.sts x_4.k ∧ x_4.k = n) ∧
 (pointer (some ⟨x_2.b1, 0, none⟩) = pointer (some ⟨x_4.b1, 0, none⟩) ∧ pointer (some ⟨x_2.b2, 0, none⟩) = pointer (some ⟨x_4.b2, 0, none⟩) ∧ pointer (some ⟨x_3.b, x_3.o + x_3.n.toNat * 13, none⟩) = pointer (some ⟨x_4.b3, x_4.k * 13, none⟩) ∧ int i64 (↑x_2.r.n : Int) = int i64 (↑x_4.n : Int) ∧ int i64 (↑x_2.k : Int) = int i64 (↑x_4.k : Int) ∧ True) ∧
 Ent [(0, F), (1, Atom.cells x_2.b1 [string x.c.name, bool x.c.late, int i64 x.c.script, slice x_2.r.a x_2.r.n x_2.r.cap, slice x.w.vt.a x.w.vt.n x.w.vt.cap, slice x.w.vb.a x.w.vb.n x.w.vb.cap, slice x.w.vd.a x.w.vd.n x.w.vd.cap, slice x.w.vi.a x.w.vi.n x.w.vi.cap] 28), (2, Atom.cells x_2.b2 [string ByteArray.empty, bool false, int i64 (0 : Int), slice none 0 0, slice none 0 0, slice none 0 0, slice none 0 0, slice none 0 0] 28), (3, x_2.r.A), (4, x_2.G)]
 [(0, F), (1, Atom.cells x_4.b1 [string x.c.name, bool x.c.late, int i64 x.c.script, slice (some ⟨x_4.b3, 0, none⟩) x_4.n x_4.cap, slice x.w.vt.a x.w.vt.n x.w.vt.cap, slice x.w.vb.a x.w.vb.n x.w.vb.cap, slice x.w.vd.a x.w.vd.n x.w.vd.cap, slice x.w.vi.a x.w.vi.n x.w.vi.cap] 28), (2, Atom.cells x_4.b2 [string ByteArray.empty, bool false, int i64 (0 : Int), slice none 0 0, slice none 0 0, slice none 0 0, slice none 0 0, slice none 0 0] 28), (3, Atom.cells x_4.b3 (x_4.raw.flatten ++ x_4.sp) 61), (4, x_4.G)]) ∧
 ∀ (x_3 : CpJ) (js : Nat → Value),
 RwQ 13 232 (StOw x_3.G) (StIn F) x_3.n x_3.cap x_3.raw x_3.sp x.c.sts x_3.k ∧ x_3.k = n →
 true = true ∧
 ∃ (a : Option Addr),
 ∃ (l : Nat),
 ∃ (c : Nat),
 Look (Atom.cells x_3.b3 (x_3.raw.flatten ++ x_3.sp) 61) ⟨x_3.b3, x_3.k * 13 + 3, none⟩ (slice a l c) ∧
 FnOk Try.prog 68 (clnRC 3 1 8) ∧
 true = true ∧
 ∃ (x_4 : ClrX),
 [slice a l c] = [slice x_4.a x_4.n x_4.cap] ∧
 ([] : List Atom) = [] ∧
 (IsSrc 1 x_4.ys x_4.a x_4.n ∧ (∀ (u : Value), u ∈ x_4.ys → u.oneCell' = true) ∧ x_4.n * 8 ≤ 140737488351232 ∧ (x_4.a = none → x_4.cap = 0)) ∧
 Srcd (Atom.pred (rest [(0, F), (1, Atom.cells x_3.b1 [string x.c.name, bool x.c.late, int i64 x.c.script, slice (some ⟨x_3.b3, 0, none⟩) x_3.n x_3.cap, slice x.w.vt.a x.w.vt.n x.w.vt.cap, slice x.w.vb.a x.w.vb.n x.w.vb.cap, slice x.w.vd.a x.w.vd.n x.w.vd.cap, slice x.w.vi.a x.w.vi.n x.w.vi.cap] 28), (2, Atom.cells x_3.b2 [string ByteArray.empty, bool false, int i64 (0 : Int), slice none 0 0, slice none 0 0, slice none 0 0, slice none 0 0, slice none 0 0] 28), (3, Atom.cells x_3.b3 (x_3.raw.flatten ++ x_3.sp) 61), (4, x_3.G)] [])) x_4.a x_4.ys ∧
 ∀ (y : Row),
 IsRow 3 1 x_4.ys y ∧ y.n = x_4.n →
 ∃ (a : Option Addr),
 ∃ (l : Nat),
 ∃ (c : Nat),
 Look (Atom.cells x_3.b3 (x_3.raw.flatten ++ x_3.sp) 61) ⟨x_3.b3, x_3.k * 13 + 5, none⟩ (slice a l c) ∧
 FnOk Try.prog 68 (clnRC 3 1 8) ∧
 true = true ∧
 ∃ (x_5 : ClrX),
 [slice a l c] = [slice x_5.a x_5.n x_5.cap] ∧
 ([] : List Atom) = [] ∧
 (IsSrc 1 x_5.ys x_5.a x_5.n ∧ (∀ (u : Value), u ∈ x_5.ys → u.oneCell' = true) ∧ x_5.n * 8 ≤ 140737488351232 ∧ (x_5.a = none → x_5.cap = 0)) ∧
 Srcd (Atom.pred (rest [(0, F), (1, Atom.cells x_3.b1 [string x.c.name, bool x.c.late, int i64 x.c.script, slice (some ⟨x_3.b3, 0, none⟩) x_3.n x_3.cap, slice x.w.vt.a x.w.vt.n x.w.vt.cap, slice x.w.vb.a x.w.vb.n x.w.vb.cap, slice x.w.vd.a x.w.vd.n x.w.vd.cap, slice x.w.vi.a x.w.vi.n x.w.vi.cap] 28), (2, Atom.cells x_3.b2 [string ByteArray.empty, bool false, int i64 (0 : Int), slice none 0 0, slice none 0 0, slice none 0 0, slice none 0 0, slice none 0 0] 28), (3, Atom.cells x_3.b3 (x_3.raw.flatten ++ x_3.sp) 61), (4, x_3.G), (7070, y.A)] [])) x_5.a x_5.ys ∧
 ∀ (y_1 : Row),
 IsRow 3 1 x_5.ys y_1 ∧ y_1.n = x_5.n →
 ∃ (a : Option Addr),
 ∃ (l : Nat),
 ∃ (c : Nat),
 Look (Atom.cells x_3.b3 (x_3.raw.flatten ++ x_3.sp) 61) ⟨x_3.b3, x_3.k * 13 + 6, none⟩ (slice a l c) ∧
 FnOk Try.prog 68 (clnRC 3 1 8) ∧
 true = true ∧
 ∃ (x_6 : ClrX),
 [slice a l c] = [slice x_6.a x_6.n x_6.cap] ∧
 ([] : List Atom) = [] ∧
 (IsSrc 1 x_6.ys x_6.a x_6.n ∧ (∀ (u : Value), u ∈ x_6.ys → u.oneCell' = true) ∧ x_6.n * 8 ≤ 140737488351232 ∧ (x_6.a = none → x_6.cap = 0)) ∧
 Srcd (Atom.pred (rest [(0, F), (1, Atom.cells x_3.b1 [string x.c.name, bool x.c.late, int i64 x.c.script, slice (some ⟨x_3.b3, 0, none⟩) x_3.n x_3.cap, slice x.w.vt.a x.w.vt.n x.w.vt.cap, slice x.w.vb.a x.w.vb.n x.w.vb.cap, slice x.w.vd.a x.w.vd.n x.w.vd.cap, slice x.w.vi.a x.w.vi.n x.w.vi.cap] 28), (2, Atom.cells x_3.b2 [string ByteArray.empty, bool false, int i64 (0 : Int), slice none 0 0, slice none 0 0, slice none 0 0, slice none 0 0, slice none 0 0] 28), (3, Atom.cells x_3.b3 (x_3.raw.flatten ++ x_3.sp) 61), (4, x_3.G), (7070, y.A), (7120, y_1.A)] [])) x_6.a x_6.ys ∧
 ∀ (y_2 : Row),
 IsRow 3 1 x_6.ys y_2 ∧ y_2.n = x_6.n →
 (Same ⟨x_3.b3, x_3.k * 13 + 3, none⟩ x_3.b3 ∧ x_3.k * 13 + 3 < (x_3.raw.flatten ++ x_3.sp).length) ∧
 (Same ⟨x_3.b3, x_3.k * 13 + 5, none⟩ x_3.b3 ∧ x_3.k * 13 + 5 < ((x_3.raw.flatten ++ x_3.sp).set (x_3.k * 13 + 3) (slice y.a y.n y.cap)).length) ∧
 (Same ⟨x_3.b3, x_3.k * 13 + 6, none⟩ x_3.b3 ∧ x_3.k * 13 + 6 < (((x_3.raw.flatten ++ x_3.sp).set (x_3.k * 13 + 3) (slice y.a y.n y.cap)).set (x_3.k * 13 + 5) (slice y_1.a y_1.n y_1.cap)).length) ∧
 true = true ∧
 ∃ (a : Option Addr),
 ∃ (l : Nat),
 ∃ (c : Nat),
 Look (Atom.cells x_3.b3 ((((x_3.raw.flatten ++ x_3.sp).set (x_3.k * 13 + 3) (slice y.a y.n y.cap)).set (x_3.k * 13 + 5) (slice y_1.a y_1.n y_1.cap)).set (x_3.k * 13 + 6) (slice y_2.a y_2.n y_2.cap)) 61) ⟨x_3.b3, x_3.k * 13 + 7, none⟩ (slice a l c) ∧
 FnOk Try.prog 68 (clnRC 3 1 8) ∧
 true = true ∧
 ∃ (x_7 : ClrX),
 [slice a l c] = [slice x_7.a x_7.n x_7.cap] ∧
 ([] : List Atom) = [] ∧
 (IsSrc 1 x_7.ys x_7.a x_7.n ∧ (∀ (u : Value), u ∈ x_7.ys → u.oneCell' = true) ∧ x_7.n * 8 ≤ 140737488351232 ∧ (x_7.a = none → x_7.cap = 0)) ∧
 Srcd
 (Atom.pred
 (rest
 [(0, F), (1, Atom.cells x_3.b1 [string x.c.name, bool x.c.late, int i64 x.c.script, slice (some ⟨x_3.b3, 0, none⟩) x_3.n x_3.cap, slice x.w.vt.a x.w.vt.n x.w.vt.cap, slice x.w.vb.a x.w.vb.n x.w.vb.cap, slice x.w.vd.a x.w.vd.n x.w.vd.cap, slice x.w.vi.a x.w.vi.n x.w.vi.cap] 28), (2, Atom.cells x_3.b2 [string ByteArray.empty, bool false, int i64 (0 : Int), slice none 0 0, slice none 0 0, slice none 0 0, slice none 0 0, slice none 0 0] 28),
 (3, Atom.cells x_3.b3 ((((x_3.raw.flatten ++ x_3.sp).set (x_3.k * 13 + 3) (slice y.a y.n y.cap)).set (x_3.k * 13 + 5) (slice y_1.a y_1.n y_1.cap)).set (x_3.k * 13 + 6) (slice y_2.a y_2.n y_2.cap)) 61), (4, x_3.G), (7070, y.A), (7120, y_1.A), (7170, y_2.A)]
 []))
 x_7.a x_7.ys ∧
 ∀ (y_3 : Row),
 IsRow 3 1 x_7.ys y_3 ∧ y_3.n = x_7.n →
 ∃ (a : Option Addr),
 ∃ (l : Nat),
 ∃ (c : Nat),
 Look (Atom.cells x_3.b3 ((((x_3.raw.flatten ++ x_3.sp).set (x_3.k * 13 + 3) (slice y.a y.n y.cap)).set (x_3.k * 13 + 5) (slice y_1.a y_1.n y_1.cap)).set (x_3.k * 13 + 6) (slice y_2.a y_2.n y_2.cap)) 61) ⟨x_3.b3, x_3.k * 13 + 8, none⟩ (slice a l c) ∧
 FnOk Try.prog 68 (clnRC 3 1 8) ∧
 true = true ∧
 ∃ (x_8 : ClrX),
 [slice a l c] = [slice x_8.a x_8.n x_8.cap] ∧
 ([] : List Atom) = [] ∧
 (IsSrc 1 x_8.ys x_8.a x_8.n ∧ (∀ (u : Value), u ∈ x_8.ys → u.oneCell' = true) ∧ x_8.n * 8 ≤ 140737488351232 ∧ (x_8.a = none → x_8.cap = 0)) ∧
 Srcd
 (Atom.pred
 (rest
 [(0, F), (1, Atom.cells x_3.b1 [string x.c.name, bool x.c.late, int i64 x.c.script, slice (some ⟨x_3.b3, 0, none⟩) x_3.n x_3.cap, slice x.w.vt.a x.w.vt.n x.w.vt.cap, slice x.w.vb.a x.w.vb.n x.w.vb.cap, slice x.w.vd.a x.w.vd.n x.w.vd.cap, slice x.w.vi.a x.w.vi.n x.w.vi.cap] 28), (2, Atom.cells x_3.b2 [string ByteArray.empty, bool false, int i64 (0 : Int), slice none 0 0, slice none 0 0, slice none 0 0, slice none 0 0, slice none 0 0] 28),
 (3, Atom.cells x_3.b3 ((((x_3.raw.flatten ++ x_3.sp).set (x_3.k * 13 + 3) (slice y.a y.n y.cap)).set (x_3.k * 13 + 5) (slice y_1.a y_1.n y_1.cap)).set (x_3.k * 13 + 6) (slice y_2.a y_2.n y_2.cap)) 61), (4, x_3.G), (7070, y.A), (7120, y_1.A), (7170, y_2.A), (8070, y_3.A)]
 []))
 x_8.a x_8.ys ∧
 ∀ (y_4 : Row),
 IsRow 3 1 x_8.ys y_4 ∧ y_4.n = x_8.n →
 ∃ (a : Option Addr),
 ∃ (l : Nat),
 ∃ (c : Nat),
 Look (Atom.cells x_3.b3 ((((x_3.raw.flatten ++ x_3.sp).set (x_3.k * 13 + 3) (slice y.a y.n y.cap)).set (x_3.k * 13 + 5) (slice y_1.a y_1.n y_1.cap)).set (x_3.k * 13 + 6) (slice y_2.a y_2.n y_2.cap)) 61) ⟨x_3.b3, x_3.k * 13 + 9, none⟩ (slice a l c) ∧
 FnOk Try.prog 68 (clnRC 3 1 8) ∧
 true = true ∧
 ∃ (x_9 : ClrX),
 [slice a l c] = [slice x_9.a x_9.n x_9.cap] ∧
 ([] : List Atom) = [] ∧
 (IsSrc 1 x_9.ys x_9.a x_9.n ∧ (∀ (u : Value), u ∈ x_9.ys → u.oneCell' = true) ∧ x_9.n * 8 ≤ 140737488351232 ∧ (x_9.a = none → x_9.cap = 0)) ∧
 Srcd
 (Atom.pred
 (rest
 [(0, F), (1, Atom.cells x_3.b1 [string x.c.name, bool x.c.late, int i64 x.c.script, slice (some ⟨x_3.b3, 0, none⟩) x_3.n x_3.cap, slice x.w.vt.a x.w.vt.n x.w.vt.cap, slice x.w.vb.a x.w.vb.n x.w.vb.cap, slice x.w.vd.a x.w.vd.n x.w.vd.cap, slice x.w.vi.a x.w.vi.n x.w.vi.cap] 28), (2, Atom.cells x_3.b2 [string ByteArray.empty, bool false, int i64 (0 : Int), slice none 0 0, slice none 0 0, slice none 0 0, slice none 0 0, slice none 0 0] 28),
 (3, Atom.cells x_3.b3 ((((x_3.raw.flatten ++ x_3.sp).set (x_3.k * 13 + 3) (slice y.a y.n y.cap)).set (x_3.k * 13 + 5) (slice y_1.a y_1.n y_1.cap)).set (x_3.k * 13 + 6) (slice y_2.a y_2.n y_2.cap)) 61), (4, x_3.G), (7070, y.A), (7120, y_1.A), (7170, y_2.A), (8070, y_3.A), (8120, y_4.A)]
 []))
 x_9.a x_9.ys ∧
 ∀ (y_5 : Row),
 IsRow 3 1 x_9.ys y_5 ∧ y_5.n = x_9.n →
 (Same ⟨x_3.b3, x_3.k * 13 + 7, none⟩ x_3.b3 ∧ x_3.k * 13 + 7 < ((((x_3.raw.flatten ++ x_3.sp).set (x_3.k * 13 + 3) (slice y.a y.n y.cap)).set (x_3.k * 13 + 5) (slice y_1.a y_1.n y_1.cap)).set (x_3.k * 13 + 6) (slice y_2.a y_2.n y_2.cap)).length) ∧
 (Same ⟨x_3.b3, x_3.k * 13 + 8, none⟩ x_3.b3 ∧ x_3.k * 13 + 8 < (((((x_3.raw.flatten ++ x_3.sp).set (x_3.k * 13 + 3) (slice y.a y.n y.cap)).set (x_3.k * 13 + 5) (slice y_1.a y_1.n y_1.cap)).set (x_3.k * 13 + 6) (slice y_2.a y_2.n y_2.cap)).set (x_3.k * 13 + 7) (slice y_3.a y_3.n y_3.cap)).length) ∧
 (Same ⟨x_3.b3, x_3.k * 13 + 9, none⟩ x_3.b3 ∧ x_3.k * 13 + 9 < ((((((x_3.raw.flatten ++ x_3.sp).set (x_3.k * 13 + 3) (slice y.a y.n y.cap)).set (x_3.k * 13 + 5) (slice y_1.a y_1.n y_1.cap)).set (x_3.k * 13 + 6) (slice y_2.a y_2.n y_2.cap)).set (x_3.k * 13 + 7) (slice y_3.a y_3.n y_3.cap)).set (x_3.k * 13 + 8) (slice y_4.a y_4.n y_4.cap)).length) ∧
 ∃ (n : Int),
 Look (Atom.cells x_3.b3 (((((((x_3.raw.flatten ++ x_3.sp).set (x_3.k * 13 + 3) (slice y.a y.n y.cap)).set (x_3.k * 13 + 5) (slice y_1.a y_1.n y_1.cap)).set (x_3.k * 13 + 6) (slice y_2.a y_2.n y_2.cap)).set (x_3.k * 13 + 7) (slice y_3.a y_3.n y_3.cap)).set (x_3.k * 13 + 8) (slice y_4.a y_4.n y_4.cap)).set (x_3.k * 13 + 9) (slice y_5.a y_5.n y_5.cap)) 61) ⟨x_3.b3, x_3.k * 13 + 10, none⟩ (int i64 n) ∧
 ∃ (a : Option Addr),
 ∃ (l : Nat),
 ∃ (c : Nat),
 Look (Atom.cells x_3.b3 (((((((x_3.raw.flatten ++ x_3.sp).set (x_3.k * 13 + 3) (slice y.a y.n y.cap)).set (x_3.k * 13 + 5) (slice y_1.a y_1.n y_1.cap)).set (x_3.k * 13 + 6) (slice y_2.a y_2.n y_2.cap)).set (x_3.k * 13 + 7) (slice y_3.a y_3.n y_3.cap)).set (x_3.k * 13 + 8) (slice y_4.a y_4.n y_4.cap)).set (x_3.k * 13 + 9) (slice y_5.a y_5.n y_5.cap)) 61) ⟨x_3.b3, x_3.k * 13 + 10 + 1, none⟩ (slice a l c) ∧
 ∃ (s : ByteArray),
 Look (Atom.cells x_3.b3 (((((((x_3.raw.flatten ++ x_3.sp).set (x_3.k * 13 + 3) (slice y.a y.n y.cap)).set (x_3.k * 13 + 5) (slice y_1.a y_1.n y_1.cap)).set (x_3.k * 13 + 6) (slice y_2.a y_2.n y_2.cap)).set (x_3.k * 13 + 7) (slice y_3.a y_3.n y_3.cap)).set (x_3.k * 13 + 8) (slice y_4.a y_4.n y_4.cap)).set (x_3.k * 13 + 9) (slice y_5.a y_5.n y_5.cap)) 61) ⟨x_3.b3, x_3.k * 13 + 10 + 2, none⟩ (string s) ∧
 FnOk Try.prog 70 ldC ∧
 true = true ∧
 ∃ (x_10 : LdX),
 [agg { toList := [int i64 n, slice a l c, string s] }] = [agg { toList := [int i64 x_10.k, slice x_10.s.a x_10.s.n x_10.s.cap, string x_10.body] }] ∧
 ([] : List Atom) = [] ∧
 (IsSrc 2 x_10.ys x_10.s.a x_10.s.n ∧ (∀ (u : Value), u ∈ x_10.ys → u.oneCell' = true) ∧ x_10.s.n * 32 ≤ 140737488351232 ∧ (x_10.s.a = none → x_10.s.cap = 0)) ∧
 Srcd
 (Atom.pred
 (rest
 [(0, F), (1, Atom.cells x_3.b1 [string x.c.name, bool x.c.late, int i64 x.c.script, slice (some ⟨x_3.b3, 0, none⟩) x_3.n x_3.cap, slice x.w.vt.a x.w.vt.n x.w.vt.cap, slice x.w.vb.a x.w.vb.n x.w.vb.cap, slice x.w.vd.a x.w.vd.n x.w.vd.cap, slice x.w.vi.a x.w.vi.n x.w.vi.cap] 28), (2, Atom.cells x_3.b2 [string ByteArray.empty, bool false, int i64 (0 : Int), slice none 0 0, slice none 0 0, slice none 0 0, slice none 0 0, slice none 0 0] 28),
 (3, Atom.cells x_3.b3 (((((((x_3.raw.flatten ++ x_3.sp).set (x_3.k * 13 + 3) (slice y.a y.n y.cap)).set (x_3.k * 13 + 5) (slice y_1.a y_1.n y_1.cap)).set (x_3.k * 13 + 6) (slice y_2.a y_2.n y_2.cap)).set (x_3.k * 13 + 7) (slice y_3.a y_3.n y_3.cap)).set (x_3.k * 13 + 8) (slice y_4.a y_4.n y_4.cap)).set (x_3.k * 13 + 9) (slice y_5.a y_5.n y_5.cap)) 61), (4, x_3.G), (7070, y.A), (7120, y_1.A), (7170, y_2.A), (8070, y_3.A), (8120, y_4.A), (8170, y_5.A)]
 []))
 x_10.s.a x_10.ys ∧
 ∀ (y_6 : Row),
 IsRow 115 2 x_10.ys y_6 ∧ y_6.n = x_10.s.n →
 (Same ⟨x_3.b3, x_3.k * 13 + 10, none⟩ x_3.b3 ∧ x_3.k * 13 + 10 < (((((((x_3.raw.flatten ++ x_3.sp).set (x_3.k * 13 + 3) (slice y.a y.n y.cap)).set (x_3.k * 13 + 5) (slice y_1.a y_1.n y_1.cap)).set (x_3.k * 13 + 6) (slice y_2.a y_2.n y_2.cap)).set (x_3.k * 13 + 7) (slice y_3.a y_3.n y_3.cap)).set (x_3.k * 13 + 8) (slice y_4.a y_4.n y_4.cap)).set (x_3.k * 13 + 9) (slice y_5.a y_5.n y_5.cap)).length) ∧
 (Same ⟨x_3.b3, x_3.k * 13 + 10 + 1, none⟩ x_3.b3 ∧ x_3.k * 13 + 10 + 1 < ((((((((x_3.raw.flatten ++ x_3.sp).set (x_3.k * 13 + 3) (slice y.a y.n y.cap)).set (x_3.k * 13 + 5) (slice y_1.a y_1.n y_1.cap)).set (x_3.k * 13 + 6) (slice y_2.a y_2.n y_2.cap)).set (x_3.k * 13 + 7) (slice y_3.a y_3.n y_3.cap)).set (x_3.k * 13 + 8) (slice y_4.a y_4.n y_4.cap)).set (x_3.k * 13 + 9) (slice y_5.a y_5.n y_5.cap)).set (x_3.k * 13 + 10) (int i64 x_10.k)).length) ∧
 (Same ⟨x_3.b3, x_3.k * 13 + 10 + 2, none⟩ x_3.b3 ∧
 x_3.k * 13 + 10 + 2 < (((((((((x_3.raw.flatten ++ x_3.sp).set (x_3.k * 13 + 3) (slice y.a y.n y.cap)).set (x_3.k * 13 + 5) (slice y_1.a y_1.n y_1.cap)).set (x_3.k * 13 + 6) (slice y_2.a y_2.n y_2.cap)).set (x_3.k * 13 + 7) (slice y_3.a y_3.n y_3.cap)).set (x_3.k * 13 + 8) (slice y_4.a y_4.n y_4.cap)).set (x_3.k * 13 + 9) (slice y_5.a y_5.n y_5.cap)).set (x_3.k * 13 + 10) (int i64 x_10.k)).set (x_3.k * 13 + 10 + 1) (slice y_6.a y_6.n y_6.cap)).length) ∧
 ((-9223372036854775808 : Int) ≤ (↑x_3.k : Int) + (1 : Int) ∧ (↑x_3.k : Int) + (1 : Int) ≤ (9223372036854775807 : Int)) ∧
 ∃ (y_7 : CpI),
 RwP 61 13 232 (StOw y_7.G) (StIn F) y_7.r y_7.raw x.c.sts y_7.k ∧
 (pointer (some ⟨x_3.b1, 0, none⟩) = pointer (some ⟨y_7.b1, 0, none⟩) ∧ pointer (some ⟨x_3.b2, 0, none⟩) = pointer (some ⟨y_7.b2, 0, none⟩) ∧ int i64 (↑x_3.n : Int) = int i64 (↑y_7.r.n : Int) ∧ int i64 ((↑x_3.k : Int) + (1 : Int)) = int i64 (↑y_7.k : Int) ∧ True) ∧
 Ent
 [(0, F), (1, Atom.cells x_3.b1 [string x.c.name, bool x.c.late, int i64 x.c.script, slice (some ⟨x_3.b3, 0, none⟩) x_3.n x_3.cap, slice x.w.vt.a x.w.vt.n x.w.vt.cap, slice x.w.vb.a x.w.vb.n x.w.vb.cap, slice x.w.vd.a x.w.vd.n x.w.vd.cap, slice x.w.vi.a x.w.vi.n x.w.vi.cap] 28), (2, Atom.cells x_3.b2 [string ByteArray.empty, bool false, int i64 (0 : Int), slice none 0 0, slice none 0 0, slice none 0 0, slice none 0 0, slice none 0 0] 28),
 (3,
 Atom.cells x_3.b3 ((((((((((x_3.raw.flatten ++ x_3.sp).set (x_3.k * 13 + 3) (slice y.a y.n y.cap)).set (x_3.k * 13 + 5) (slice y_1.a y_1.n y_1.cap)).set (x_3.k * 13 + 6) (slice y_2.a y_2.n y_2.cap)).set (x_3.k * 13 + 7) (slice y_3.a y_3.n y_3.cap)).set (x_3.k * 13 + 8) (slice y_4.a y_4.n y_4.cap)).set (x_3.k * 13 + 9) (slice y_5.a y_5.n y_5.cap)).set (x_3.k * 13 + 10) (int i64 x_10.k)).set (x_3.k * 13 + 10 + 1) (slice y_6.a y_6.n y_6.cap)).set (x_3.k * 13 + 10 + 2) (string x_10.body)) 61),
 (4, x_3.G), (7070, y.A), (7120, y_1.A), (7170, y_2.A), (8070, y_3.A), (8120, y_4.A), (8170, y_5.A), (9050, y_6.A)]
 [(0, F), (1, Atom.cells y_7.b1 [string x.c.name, bool x.c.late, int i64 x.c.script, slice y_7.r.a y_7.r.n y_7.r.cap, slice x.w.vt.a x.w.vt.n x.w.vt.cap, slice x.w.vb.a x.w.vb.n x.w.vb.cap, slice x.w.vd.a x.w.vd.n x.w.vd.cap, slice x.w.vi.a x.w.vi.n x.w.vi.cap] 28), (2, Atom.cells y_7.b2 [string ByteArray.empty, bool false, int i64 (0 : Int), slice none 0 0, slice none 0 0, slice none 0 0, slice none 0 0, slice none 0 0] 28), (3, y_7.r.A), (4, y_7.G)] ∧
 x.c.sts.length - y_7.k < x.c.sts.length - x_2.k)
 (Same ⟨x_2.b1, 4, none⟩ x_2.b1 ∧
 FnOk Try.prog 71 (clnRC 76 6 88) ∧
 true = true ∧
 ∃ (x_3 : ClrX),
 [slice x.w.vt.a x.w.vt.n x.w.vt.cap] = [slice x_3.a x_3.n x_3.cap] ∧
 ([] : List Atom) = [] ∧
 (IsSrc 6 x_3.ys x_3.a x_3.n ∧ (∀ (u : Value), u ∈ x_3.ys → u.oneCell' = true) ∧ x_3.n * 88 ≤ 140737488351232 ∧ (x_3.a = none → x_3.cap = 0)) ∧
 Srcd (Atom.pred (rest [(0, F), (1, Atom.cells x_2.b1 [string x.c.name, bool x.c.late, int i64 x.c.script, slice x_2.r.a x_2.r.n x_2.r.cap, slice x.w.vt.a x.w.vt.n x.w.vt.cap, slice x.w.vb.a x.w.vb.n x.w.vb.cap, slice x.w.vd.a x.w.vd.n x.w.vd.cap, slice x.w.vi.a x.w.vi.n x.w.vi.cap] 28), (2, Atom.cells x_2.b2 [string ByteArray.empty, bool false, int i64 (0 : Int), slice none 0 0, slice none 0 0, slice none 0 0, slice none 0 0, slice none 0 0] 28), (3, x_2.r.A), (4, x_2.G)] [])) x_3.a x_3.ys ∧
 ∀ (y : Row),
 IsRow 76 6 x_3.ys y ∧ y.n = x_3.n →
 Same ⟨x_2.b1, 4, none⟩ x_2.b1 ∧
 Same ⟨x_2.b1, 4, none⟩ x_2.b1 ∧
 (∃ (x_4 : CpI),
 (SlOw x_4.G 61 13 232 (StOw x_4.G) x_4.s1 x.c.sts ∧ RwP 76 6 88 (TrOw x_4.G) (TrIn F) x_4.r x_4.raw x.c.trs x_4.k) ∧
 (pointer (some ⟨x_2.b1, 0, none⟩) = pointer (some ⟨x_4.b1, 0, none⟩) ∧ pointer (some ⟨x_2.b2, 0, none⟩) = pointer (some ⟨x_4.b2, 0, none⟩) ∧ int i64 (↑y.n : Int) = int i64 (↑x_4.r.n : Int) ∧ int i64 (0 : Int) = int i64 (↑x_4.k : Int) ∧ True) ∧
 Ent [(0, F), (1, Atom.cells x_2.b1 [string x.c.name, bool x.c.late, int i64 x.c.script, slice x_2.r.a x_2.r.n x_2.r.cap, slice y.a y.n y.cap, slice x.w.vb.a x.w.vb.n x.w.vb.cap, slice x.w.vd.a x.w.vd.n x.w.vd.cap, slice x.w.vi.a x.w.vi.n x.w.vi.cap] 28), (2, Atom.cells x_2.b2 [string ByteArray.empty, bool false, int i64 (0 : Int), slice none 0 0, slice none 0 0, slice none 0 0, slice none 0 0, slice none 0 0] 28), (3, x_2.r.A), (4, x_2.G), (11020, y.A)]
 [(0, F), (1, Atom.cells x_4.b1 [string x.c.name, bool x.c.late, int i64 x.c.script, slice x_4.s1.a x_4.s1.n x_4.s1.cap, slice x_4.r.a x_4.r.n x_4.r.cap, slice x.w.vb.a x.w.vb.n x.w.vb.cap, slice x.w.vd.a x.w.vd.n x.w.vd.cap, slice x.w.vi.a x.w.vi.n x.w.vi.cap] 28), (2, Atom.cells x_4.b2 [string ByteArray.empty, bool false, int i64 (0 : Int), slice none 0 0, slice none 0 0, slice none 0 0, slice none 0 0, slice none 0 0] 28), (3, x_4.r.A), (4, x_4.G)]) ∧
 ∀ (x_4 : CpI) (js : Nat → Value),
 SlOw x_4.G 61 13 232 (StOw x_4.G) x_4.s1 x.c.sts ∧ RwP 76 6 88 (TrOw x_4.G) (TrIn F) x_4.r x_4.raw x.c.trs x_4.k →
 Br (decide ((↑x_4.k : Int) < (↑x_4.r.n : Int)))
 (∃ (n : Nat),
 (∃ (x_5 : CpJ),
 ((SlOw x_5.G 61 13 232 (StOw x_5.G) x_5.s1 x.c.sts ∧ RwQ 6 88 (TrOw x_5.G) (TrIn F) x_5.n x_5.cap x_5.raw x_5.sp x.c.trs x_5.k) ∧ x_5.k = n) ∧
 (pointer (some ⟨x_4.b1, 0, none⟩) = pointer (some ⟨x_5.b1, 0, none⟩) ∧ pointer (some ⟨x_4.b2, 0, none⟩) = pointer (some ⟨x_5.b2, 0, none⟩) ∧ int i64 (↑x_4.k : Int) = int i64 (↑x_5.k : Int) ∧ int i64 (↑x_4.r.n : Int) = int i64 (↑x_5.n : Int) ∧ int i64 (↑x_4.k : Int) = int i64 (↑x_5.k : Int) ∧ True) ∧
 Ent [(0, F), (1, Atom.cells x_4.b1 [string x.c.name, bool x.c.late, int i64 x.c.script, slice x_4.s1.a x_4.s1.n x_4.s1.cap, slice x_4.r.a x_4.r.n x_4.r.cap, slice x.w.vb.a x.w.vb.n x.w.vb.cap, slice x.w.vd.a x.w.vd.n x.w.vd.cap, slice x.w.vi.a x.w.vi.n x.w.vi.cap] 28), (2, Atom.cells x_4.b2 [string ByteArray.empty, bool false, int i64 (0 : Int), slice none 0 0, slice none 0 0, slice none 0 0, slice none 0 0, slice none 0 0] 28), (3, x_4.r.A), (4, x_4.G)]
 [(0, F), (1, Atom.cells x_5.b1 [string x.c.name, bool x.c.late, int i64 x.c.script, slice x_5.s1.a x_5.s1.n x_5.s1.cap, slice (some ⟨x_5.b3, 0, none⟩) x_5.n x_5.cap, slice x.w.vb.a x.w.vb.n x.w.vb.cap, slice x.w.vd.a x.w.vd.n x.w.vd.cap, slice x.w.vi.a x.w.vi.n x.w.vi.cap] 28), (2, Atom.cells x_5.b2 [string ByteArray.empty, bool false, int i64 (0 : Int), slice none 0 0, slice none 0 0, slice none 0 0, slice none 0 0, slice none 0 0] 28), (3, Atom.cells x_5.b3 (x_5.raw.flatten ++ x_5.sp) 76), (4, x_5.G)]) ∧
 ∀ (x_5 : CpJ) (js : Nat → Value),
 (SlOw x_5.G 61 13 232 (StOw x_5.G) x_5.s1 x.c.sts ∧ RwQ 6 88 (TrOw x_5.G) (TrIn F) x_5.n x_5.cap x_5.raw x_5.sp x.c.trs x_5.k) ∧ x_5.k = n →
 true = true ∧
 Same ⟨x_5.b1, 4, none⟩ x_5.b1 ∧
 Same ⟨x_5.b1, 4, none⟩ x_5.b1 ∧
 Same ⟨x_5.b1, 4, none⟩ x_5.b1 ∧
 ((0 : Int) ≤ (↑x_5.k : Int) ∧ (↑x_5.k : Int) < (↑x_5.n : Int)) ∧
 ∃ (a : Option Addr),
 ∃ (l : Nat),
 ∃ (c : Nat),
 Look (Atom.cells x_5.b3 (x_5.raw.flatten ++ x_5.sp) 76) ⟨x_5.b3, 0 + (↑x_5.k : Int).toNat * 6 + 1, none⟩ (slice a l c) ∧
 FnOk Try.prog 72 (clnRC 9 1 16) ∧
 true = true ∧
 ∃ (x_6 : ClrX),
 [slice a l c] = [slice x_6.a x_6.n x_6.cap] ∧
 ([] : List Atom) = [] ∧
 (IsSrc 1 x_6.ys x_6.a x_6.n ∧ (∀ (u : Value), u ∈ x_6.ys → u.oneCell' = true) ∧ x_6.n * 16 ≤ 140737488351232 ∧ (x_6.a = none → x_6.cap = 0)) ∧
 Srcd (Atom.pred (rest [(0, F), (1, Atom.cells x_5.b1 [string x.c.name, bool x.c.late, int i64 x.c.script, slice x_5.s1.a x_5.s1.n x_5.s1.cap, slice (some ⟨x_5.b3, 0, none⟩) x_5.n x_5.cap, slice x.w.vb.a x.w.vb.n x.w.vb.cap, slice x.w.vd.a x.w.vd.n x.w.vd.cap, slice x.w.vi.a x.w.vi.n x.w.vi.cap] 28), (2, Atom.cells x_5.b2 [string ByteArray.empty, bool false, int i64 (0 : Int), slice none 0 0, slice none 0 0, slice none 0 0, slice none 0 0, slice none 0 0] 28), (3, Atom.cells x_5.b3 (x_5.raw.flatten ++ x_5.sp) 76), (4, x_5.G)] [])) x_6.a x_6.ys ∧
 ∀ (y : Row),
 IsRow 9 1 x_6.ys y ∧ y.n = x_6.n →
 Same ⟨x_5.b1, 4, none⟩ x_5.b1 ∧
 ((0 : Int) ≤ (↑x_5.k : Int) ∧ (↑x_5.k : Int) < (↑x_5.n : Int)) ∧
 ∃ (a : Option Addr),
 ∃ (l : Nat),
 ∃ (c : Nat),
 Look (Atom.cells x_5.b3 (x_5.raw.flatten ++ x_5.sp) 76) ⟨x_5.b3, 0 + (↑x_5.k : Int).toNat * 6 + 3, none⟩ (slice a l c) ∧
 FnOk Try.prog 68 (clnRC 3 1 8) ∧
 true = true ∧
 ∃ (x_7 : ClrX),
 [slice a l c] = [slice x_7.a x_7.n x_7.cap] ∧
 ([] : List Atom) = [] ∧
 (IsSrc 1 x_7.ys x_7.a x_7.n ∧ (∀ (u : Value), u ∈ x_7.ys → u.oneCell' = true) ∧ x_7.n * 8 ≤ 140737488351232 ∧ (x_7.a = none → x_7.cap = 0)) ∧
 Srcd (Atom.pred (rest [(0, F), (1, Atom.cells x_5.b1 [string x.c.name, bool x.c.late, int i64 x.c.script, slice x_5.s1.a x_5.s1.n x_5.s1.cap, slice (some ⟨x_5.b3, 0, none⟩) x_5.n x_5.cap, slice x.w.vb.a x.w.vb.n x.w.vb.cap, slice x.w.vd.a x.w.vd.n x.w.vd.cap, slice x.w.vi.a x.w.vi.n x.w.vi.cap] 28), (2, Atom.cells x_5.b2 [string ByteArray.empty, bool false, int i64 (0 : Int), slice none 0 0, slice none 0 0, slice none 0 0, slice none 0 0, slice none 0 0] 28), (3, Atom.cells x_5.b3 (x_5.raw.flatten ++ x_5.sp) 76), (4, x_5.G), (15120, y.A)] [])) x_7.a x_7.ys ∧
 ∀ (y_1 : Row),
 IsRow 3 1 x_7.ys y_1 ∧ y_1.n = x_7.n →
 ((0 : Int) ≤ (↑x_5.k : Int) ∧ (↑x_5.k : Int) < (↑x_5.n : Int)) ∧
 (Same ⟨x_5.b3, 0 + (↑x_5.k : Int).toNat * 6 + 1, none⟩ x_5.b3 ∧ 0 + (↑x_5.k : Int).toNat * 6 + 1 < (x_5.raw.flatten ++ x_5.sp).length) ∧
 ((0 : Int) ≤ (↑x_5.k : Int) ∧ (↑x_5.k : Int) < (↑x_5.n : Int)) ∧
 (Same ⟨x_5.b3, 0 + (↑x_5.k : Int).toNat * 6 + 3, none⟩ x_5.b3 ∧ 0 + (↑x_5.k : Int).toNat * 6 + 3 < ((x_5.raw.flatten ++ x_5.sp).set (0 + (↑x_5.k : Int).toNat * 6 + 1) (slice y.a y.n y.cap)).length) ∧
 ((-9223372036854775808 : Int) ≤ (↑x_5.k : Int) + (1 : Int) ∧ (↑x_5.k : Int) + (1 : Int) ≤ (9223372036854775807 : Int)) ∧
 ∃ (y_2 : CpI),
 (SlOw y_2.G 61 13 232 (StOw y_2.G) y_2.s1 x.c.sts ∧ RwP 76 6 88 (TrOw y_2.G) (TrIn F) y_2.r y_2.raw x.c.trs y_2.k) ∧
 (pointer (some ⟨x_5.b1, 0, none⟩) = pointer (some ⟨y_2.b1, 0, none⟩) ∧ pointer (some ⟨x_5.b2, 0, none⟩) = pointer (some ⟨y_2.b2, 0, none⟩) ∧ int i64 (↑x_5.n : Int) = int i64 (↑y_2.r.n : Int) ∧ int i64 ((↑x_5.k : Int) + (1 : Int)) = int i64 (↑y_2.k : Int) ∧ True) ∧
 Ent
 [(0, F), (1, Atom.cells x_5.b1 [string x.c.name, bool x.c.late, int i64 x.c.script, slice x_5.s1.a x_5.s1.n x_5.s1.cap, slice (some ⟨x_5.b3, 0, none⟩) x_5.n x_5.cap, slice x.w.vb.a x.w.vb.n x.w.vb.cap, slice x.w.vd.a x.w.vd.n x.w.vd.cap, slice x.w.vi.a x.w.vi.n x.w.vi.cap] 28), (2, Atom.cells x_5.b2 [string ByteArray.empty, bool false, int i64 (0 : Int), slice none 0 0, slice none 0 0, slice none 0 0, slice none 0 0, slice none 0 0] 28),
 (3, Atom.cells x_5.b3 (((x_5.raw.flatten ++ x_5.sp).set (0 + (↑x_5.k : Int).toNat * 6 + 1) (slice y.a y.n y.cap)).set (0 + (↑x_5.k : Int).toNat * 6 + 3) (slice y_1.a y_1.n y_1.cap)) 76), (4, x_5.G), (15120, y.A), (15190, y_1.A)]
 [(0, F), (1, Atom.cells y_2.b1 [string x.c.name, bool x.c.late, int i64 x.c.script, slice y_2.s1.a y_2.s1.n y_2.s1.cap, slice y_2.r.a y_2.r.n y_2.r.cap, slice x.w.vb.a x.w.vb.n x.w.vb.cap, slice x.w.vd.a x.w.vd.n x.w.vd.cap, slice x.w.vi.a x.w.vi.n x.w.vi.cap] 28), (2, Atom.cells y_2.b2 [string ByteArray.empty, bool false, int i64 (0 : Int), slice none 0 0, slice none 0 0, slice none 0 0, slice none 0 0, slice none 0 0] 28), (3, y_2.r.A), (4, y_2.G)] ∧
 x.c.trs.length - y_2.k < x.c.trs.length - x_4.k)
 (Same ⟨x_4.b1, 5, none⟩ x_4.b1 ∧
 FnOk Try.prog 73 (clnRC 93 1 24) ∧
 true = true ∧
 ∃ (x_5 : ClrX),
 [slice x.w.vb.a x.w.vb.n x.w.vb.cap] = [slice x_5.a x_5.n x_5.cap] ∧
 ([] : List Atom) = [] ∧
 (IsSrc 1 x_5.ys x_5.a x_5.n ∧ (∀ (u : Value), u ∈ x_5.ys → u.oneCell' = true) ∧ x_5.n * 24 ≤ 140737488351232 ∧ (x_5.a = none → x_5.cap = 0)) ∧
 Srcd (Atom.pred (rest [(0, F), (1, Atom.cells x_4.b1 [string x.c.name, bool x.c.late, int i64 x.c.script, slice x_4.s1.a x_4.s1.n x_4.s1.cap, slice x_4.r.a x_4.r.n x_4.r.cap, slice x.w.vb.a x.w.vb.n x.w.vb.cap, slice x.w.vd.a x.w.vd.n x.w.vd.cap, slice x.w.vi.a x.w.vi.n x.w.vi.cap] 28), (2, Atom.cells x_4.b2 [string ByteArray.empty, bool false, int i64 (0 : Int), slice none 0 0, slice none 0 0, slice none 0 0, slice none 0 0, slice none 0 0] 28), (3, x_4.r.A), (4, x_4.G)] [])) x_5.a x_5.ys ∧
 ∀ (y : Row),
 IsRow 93 1 x_5.ys y ∧ y.n = x_5.n →
 Same ⟨x_4.b1, 5, none⟩ x_4.b1 ∧
 Same ⟨x_4.b1, 5, none⟩ x_4.b1 ∧
 (∃ (x_6 : CpI),
 (SlOw x_6.G 61 13 232 (StOw x_6.G) x_6.s1 x.c.sts ∧ SlOw x_6.G 76 6 88 (TrOw x_6.G) x_6.s2 x.c.trs ∧ RwP 93 1 24 (BlkOw x_6.G) (BlkIn F) x_6.r x_6.raw x.c.blks x_6.k) ∧
 (pointer (some ⟨x_4.b1, 0, none⟩) = pointer (some ⟨x_6.b1, 0, none⟩) ∧ pointer (some ⟨x_4.b2, 0, none⟩) = pointer (some ⟨x_6.b2, 0, none⟩) ∧ int i64 (↑y.n : Int) = int i64 (↑x_6.r.n : Int) ∧ int i64 (0 : Int) = int i64 (↑x_6.k : Int) ∧ True) ∧
 Ent [(0, F), (1, Atom.cells x_4.b1 [string x.c.name, bool x.c.late, int i64 x.c.script, slice x_4.s1.a x_4.s1.n x_4.s1.cap, slice x_4.r.a x_4.r.n x_4.r.cap, slice y.a y.n y.cap, slice x.w.vd.a x.w.vd.n x.w.vd.cap, slice x.w.vi.a x.w.vi.n x.w.vi.cap] 28), (2, Atom.cells x_4.b2 [string ByteArray.empty, bool false, int i64 (0 : Int), slice none 0 0, slice none 0 0, slice none 0 0, slice none 0 0, slice none 0 0] 28), (3, x_4.r.A), (4, x_4.G), (17020, y.A)]
 [(0, F), (1, Atom.cells x_6.b1 [string x.c.name, bool x.c.late, int i64 x.c.script, slice x_6.s1.a x_6.s1.n x_6.s1.cap, slice x_6.s2.a x_6.s2.n x_6.s2.cap, slice x_6.r.a x_6.r.n x_6.r.cap, slice x.w.vd.a x.w.vd.n x.w.vd.cap, slice x.w.vi.a x.w.vi.n x.w.vi.cap] 28), (2, Atom.cells x_6.b2 [string ByteArray.empty, bool false, int i64 (0 : Int), slice none 0 0, slice none 0 0, slice none 0 0, slice none 0 0, slice none 0 0] 28), (3, x_6.r.A), (4, x_6.G)]) ∧
 ∀ (x_6 : CpI) (js : Nat → Value),
 SlOw x_6.G 61 13 232 (StOw x_6.G) x_6.s1 x.c.sts ∧ SlOw x_6.G 76 6 88 (TrOw x_6.G) x_6.s2 x.c.trs ∧ RwP 93 1 24 (BlkOw x_6.G) (BlkIn F) x_6.r x_6.raw x.c.blks x_6.k →
 Br (decide ((↑x_6.k : Int) < (↑x_6.r.n : Int)))
 (∃ (n : Nat),
 (∃ (x_7 : CpJ),
 ((SlOw x_7.G 61 13 232 (StOw x_7.G) x_7.s1 x.c.sts ∧ SlOw x_7.G 76 6 88 (TrOw x_7.G) x_7.s2 x.c.trs ∧ RwQ 1 24 (BlkOw x_7.G) (BlkIn F) x_7.n x_7.cap x_7.raw x_7.sp x.c.blks x_7.k) ∧ x_7.k = n) ∧
 (pointer (some ⟨x_6.b1, 0, none⟩) = pointer (some ⟨x_7.b1, 0, none⟩) ∧ pointer (some ⟨x_6.b2, 0, none⟩) = pointer (some ⟨x_7.b2, 0, none⟩) ∧ int i64 (↑x_6.k : Int) = int i64 (↑x_7.k : Int) ∧ int i64 (↑x_6.r.n : Int) = int i64 (↑x_7.n : Int) ∧ int i64 (↑x_6.k : Int) = int i64 (↑x_7.k : Int) ∧ True) ∧
 Ent [(0, F), (1, Atom.cells x_6.b1 [string x.c.name, bool x.c.late, int i64 x.c.script, slice x_6.s1.a x_6.s1.n x_6.s1.cap, slice x_6.s2.a x_6.s2.n x_6.s2.cap, slice x_6.r.a x_6.r.n x_6.r.cap, slice x.w.vd.a x.w.vd.n x.w.vd.cap, slice x.w.vi.a x.w.vi.n x.w.vi.cap] 28), (2, Atom.cells x_6.b2 [string ByteArray.empty, bool false, int i64 (0 : Int), slice none 0 0, slice none 0 0, slice none 0 0, slice none 0 0, slice none 0 0] 28), (3, x_6.r.A), (4, x_6.G)]
 [(0, F), (1, Atom.cells x_7.b1 [string x.c.name, bool x.c.late, int i64 x.c.script, slice x_7.s1.a x_7.s1.n x_7.s1.cap, slice x_7.s2.a x_7.s2.n x_7.s2.cap, slice (some ⟨x_7.b3, 0, none⟩) x_7.n x_7.cap, slice x.w.vd.a x.w.vd.n x.w.vd.cap, slice x.w.vi.a x.w.vi.n x.w.vi.cap] 28), (2, Atom.cells x_7.b2 [string ByteArray.empty, bool false, int i64 (0 : Int), slice none 0 0, slice none 0 0, slice none 0 0, slice none 0 0, slice none 0 0] 28), (3, Atom.cells x_7.b3 (x_7.raw.flatten ++ x_7.sp) 93), (4, x_7.G)]) ∧
 ∀ (x_7 : CpJ) (js : Nat → Value),
 (SlOw x_7.G 61 13 232 (StOw x_7.G) x_7.s1 x.c.sts ∧ SlOw x_7.G 76 6 88 (TrOw x_7.G) x_7.s2 x.c.trs ∧ RwQ 1 24 (BlkOw x_7.G) (BlkIn F) x_7.n x_7.cap x_7.raw x_7.sp x.c.blks x_7.k) ∧ x_7.k = n →
 Same ⟨x_7.b1, 5, none⟩ x_7.b1 ∧
 ((0 : Int) ≤ (↑x_7.k : Int) ∧ (↑x_7.k : Int) < (↑x_7.n : Int)) ∧
 ∃ (a : Option Addr),
 ∃ (l : Nat),
 ∃ (c : Nat),
 Look (Atom.cells x_7.b3 (x_7.raw.flatten ++ x_7.sp) 93) ⟨x_7.b3, 0 + (↑x_7.k : Int).toNat * 1, none⟩ (slice a l c) ∧
 FnOk Try.prog 74 (clnRC 96 19 304) ∧
 true = true ∧
 ∃ (x_8 : ClrX),
 [slice a l c] = [slice x_8.a x_8.n x_8.cap] ∧
 ([] : List Atom) = [] ∧
 (IsSrc 19 x_8.ys x_8.a x_8.n ∧ (∀ (u : Value), u ∈ x_8.ys → u.oneCell' = true) ∧ x_8.n * 304 ≤ 140737488351232 ∧ (x_8.a = none → x_8.cap = 0)) ∧
 Srcd (Atom.pred (rest [(0, F), (1, Atom.cells x_7.b1 [string x.c.name, bool x.c.late, int i64 x.c.script, slice x_7.s1.a x_7.s1.n x_7.s1.cap, slice x_7.s2.a x_7.s2.n x_7.s2.cap, slice (some ⟨x_7.b3, 0, none⟩) x_7.n x_7.cap, slice x.w.vd.a x.w.vd.n x.w.vd.cap, slice x.w.vi.a x.w.vi.n x.w.vi.cap] 28), (2, Atom.cells x_7.b2 [string ByteArray.empty, bool false, int i64 (0 : Int), slice none 0 0, slice none 0 0, slice none 0 0, slice none 0 0, slice none 0 0] 28), (3, Atom.cells x_7.b3 (x_7.raw.flatten ++ x_7.sp) 93), (4, x_7.G)] [])) x_8.a x_8.ys ∧
 ∀ (y : Row),
 IsRow 96 19 x_8.ys y ∧ y.n = x_8.n →
 ∃ (n : Nat),
 (∃ (x_9 : CpK),
 ((SlOw x_9.G 61 13 232 (StOw x_9.G) x_9.s1 x.c.sts ∧ SlOw x_9.G 76 6 88 (TrOw x_9.G) x_9.s2 x.c.trs ∧ RwQ 1 24 (BlkOw x_9.G) (BlkIn F) x_9.n x_9.cap x_9.raw x_9.sp x.c.blks x_9.k ∧ x.c.blks[x_9.k]? = some x_9.xs ∧ RwP 96 19 304 (ActOw x_9.G) (ActIn F) x_9.r2 x_9.raw2 x_9.xs x_9.k2) ∧ x_9.k = n) ∧
 (pointer (some ⟨x_7.b1, 0, none⟩) = pointer (some ⟨x_9.b1, 0, none⟩) ∧ pointer (some ⟨x_7.b2, 0, none⟩) = pointer (some ⟨x_9.b2, 0, none⟩) ∧ int i64 (↑x_7.k : Int) = int i64 (↑x_9.k : Int) ∧ slice y.a y.n y.cap = slice x_9.r2.a x_9.r2.n x_9.r2.cap ∧ int i64 (↑x_7.n : Int) = int i64 (↑x_9.n : Int) ∧ int i64 (↑x_7.k : Int) = int i64 (↑x_9.k : Int) ∧ int i64 (↑y.n : Int) = int i64 (↑x_9.r2.n : Int) ∧ int i64 (0 : Int) = int i64 (↑x_9.k2 : Int) ∧ True) ∧
 Ent [(0, F), (1, Atom.cells x_7.b1 [string x.c.name, bool x.c.late, int i64 x.c.script, slice x_7.s1.a x_7.s1.n x_7.s1.cap, slice x_7.s2.a x_7.s2.n x_7.s2.cap, slice (some ⟨x_7.b3, 0, none⟩) x_7.n x_7.cap, slice x.w.vd.a x.w.vd.n x.w.vd.cap, slice x.w.vi.a x.w.vi.n x.w.vi.cap] 28), (2, Atom.cells x_7.b2 [string ByteArray.empty, bool false, int i64 (0 : Int), slice none 0 0, slice none 0 0, slice none 0 0, slice none 0 0, slice none 0 0] 28), (3, Atom.cells x_7.b3 (x_7.raw.flatten ++ x_7.sp) 93), (4, x_7.G), (21060, y.A)]
 [(0, F), (1, Atom.cells x_9.b1 [string x.c.name, bool x.c.late, int i64 x.c.script, slice x_9.s1.a x_9.s1.n x_9.s1.cap, slice x_9.s2.a x_9.s2.n x_9.s2.cap, slice (some ⟨x_9.b3, 0, none⟩) x_9.n x_9.cap, slice x.w.vd.a x.w.vd.n x.w.vd.cap, slice x.w.vi.a x.w.vi.n x.w.vi.cap] 28), (2, Atom.cells x_9.b2 [string ByteArray.empty, bool false, int i64 (0 : Int), slice none 0 0, slice none 0 0, slice none 0 0, slice none 0 0, slice none 0 0] 28), (3, Atom.cells x_9.b3 (x_9.raw.flatten ++ x_9.sp) 93), (4, x_9.r2.A), (5, x_9.G)]) ∧
 ∀ (x_9 : CpK) (js : Nat → Value),
 (SlOw x_9.G 61 13 232 (StOw x_9.G) x_9.s1 x.c.sts ∧ SlOw x_9.G 76 6 88 (TrOw x_9.G) x_9.s2 x.c.trs ∧ RwQ 1 24 (BlkOw x_9.G) (BlkIn F) x_9.n x_9.cap x_9.raw x_9.sp x.c.blks x_9.k ∧ x.c.blks[x_9.k]? = some x_9.xs ∧ RwP 96 19 304 (ActOw x_9.G) (ActIn F) x_9.r2 x_9.raw2 x_9.xs x_9.k2) ∧ x_9.k = n →
 Br (decide ((↑x_9.k2 : Int) < (↑x_9.r2.n : Int)))
 (∃ (n_1 : Nat × Nat × Nat),
 (∃ (x_10 : CpL),
 ((SlOw x_10.G 61 13 232 (StOw x_10.G) x_10.s1 x.c.sts ∧ SlOw x_10.G 76 6 88 (TrOw x_10.G) x_10.s2 x.c.trs ∧ RwQ 1 24 (BlkOw x_10.G) (BlkIn F) x_10.n x_10.cap x_10.raw x_10.sp x.c.blks x_10.k ∧ x.c.blks[x_10.k]? = some x_10.xs ∧ RwQ 19 304 (ActOw x_10.G) (ActIn F) x_10.n2 x_10.cap2 x_10.raw2 x_10.sp2 x_10.xs x_10.k2) ∧ (x_10.k, x_10.n2, x_10.k2) = n_1) ∧
 (pointer (some ⟨x_9.b1, 0, none⟩) = pointer (some ⟨x_10.b1, 0, none⟩) ∧
 pointer (some ⟨x_9.b2, 0, none⟩) = pointer (some ⟨x_10.b2, 0, none⟩) ∧ int i64 (↑x_9.k : Int) = int i64 (↑x_10.k : Int) ∧ slice x_9.r2.a x_9.r2.n x_9.r2.cap = slice (some ⟨x_10.b4, 0, none⟩) x_10.n2 x_10.cap2 ∧ int i64 (↑x_9.k2 : Int) = int i64 (↑x_10.k2 : Int) ∧ int i64 (↑x_9.n : Int) = int i64 (↑x_10.n : Int) ∧ int i64 (↑x_9.k : Int) = int i64 (↑x_10.k : Int) ∧ int i64 (↑x_9.r2.n : Int) = int i64 (↑x_10.n2 : Int) ∧ int i64 (↑x_9.k2 : Int) = int i64 (↑x_10.k2 : Int) ∧ True) ∧
 Ent [(0, F), (1, Atom.cells x_9.b1 [string x.c.name, bool x.c.late, int i64 x.c.script, slice x_9.s1.a x_9.s1.n x_9.s1.cap, slice x_9.s2.a x_9.s2.n x_9.s2.cap, slice (some ⟨x_9.b3, 0, none⟩) x_9.n x_9.cap, slice x.w.vd.a x.w.vd.n x.w.vd.cap, slice x.w.vi.a x.w.vi.n x.w.vi.cap] 28), (2, Atom.cells x_9.b2 [string ByteArray.empty, bool false, int i64 (0 : Int), slice none 0 0, slice none 0 0, slice none 0 0, slice none 0 0, slice none 0 0] 28), (3, Atom.cells x_9.b3 (x_9.raw.flatten ++ x_9.sp) 93), (4, x_9.r2.A), (5, x_9.G)]
 [(0, F), (1, Atom.cells x_10.b1 [string x.c.name, bool x.c.late, int i64 x.c.script, slice x_10.s1.a x_10.s1.n x_10.s1.cap, slice x_10.s2.a x_10.s2.n x_10.s2.cap, slice (some ⟨x_10.b3, 0, none⟩) x_10.n x_10.cap, slice x.w.vd.a x.w.vd.n x.w.vd.cap, slice x.w.vi.a x.w.vi.n x.w.vi.cap] 28), (2, Atom.cells x_10.b2 [string ByteArray.empty, bool false, int i64 (0 : Int), slice none 0 0, slice none 0 0, slice none 0 0, slice none 0 0, slice none 0 0] 28), (3, Atom.cells x_10.b3 (x_10.raw.flatten ++ x_10.sp) 93),
 (4, Atom.cells x_10.b4 (x_10.raw2.flatten ++ x_10.sp2) 96), (5, x_10.G)]) ∧
 ∀ (x_10 : CpL) (js : Nat → Value),
 (SlOw x_10.G 61 13 232 (StOw x_10.G) x_10.s1 x.c.sts ∧ SlOw x_10.G 76 6 88 (TrOw x_10.G) x_10.s2 x.c.trs ∧ RwQ 1 24 (BlkOw x_10.G) (BlkIn F) x_10.n x_10.cap x_10.raw x_10.sp x.c.blks x_10.k ∧ x.c.blks[x_10.k]? = some x_10.xs ∧ RwQ 19 304 (ActOw x_10.G) (ActIn F) x_10.n2 x_10.cap2 x_10.raw2 x_10.sp2 x_10.xs x_10.k2) ∧ (x_10.k, x_10.n2, x_10.k2) = n_1 →
 true = true ∧
 ((0 : Int) ≤ (↑x_10.k2 : Int) ∧ (↑x_10.k2 : Int) < (↑x_10.n2 : Int)) ∧
 ∃ (a : Option Addr),
 ∃ (l : Nat),
 ∃ (c : Nat),
 Look (Atom.cells x_10.b4 (x_10.raw2.flatten ++ x_10.sp2) 96) ⟨x_10.b4, 0 + (↑x_10.k2 : Int).toNat * 19 + 14, none⟩ (slice a l c) ∧
 FnOk Try.prog 72 (clnRC 9 1 16) ∧
 true = true ∧
 ∃ (x_11 : ClrX),
 [slice a l c] = [slice x_11.a x_11.n x_11.cap] ∧
 ([] : List Atom) = [] ∧
 (IsSrc 1 x_11.ys x_11.a x_11.n ∧ (∀ (u : Value), u ∈ x_11.ys → u.oneCell' = true) ∧ x_11.n * 16 ≤ 140737488351232 ∧ (x_11.a = none → x_11.cap = 0)) ∧
 Srcd
 (Atom.pred
 (rest
 [(0, F), (1, Atom.cells x_10.b1 [string x.c.name, bool x.c.late, int i64 x.c.script, slice x_10.s1.a x_10.s1.n x_10.s1.cap, slice x_10.s2.a x_10.s2.n x_10.s2.cap, slice (some ⟨x_10.b3, 0, none⟩) x_10.n x_10.cap, slice x.w.vd.a x.w.vd.n x.w.vd.cap, slice x.w.vi.a x.w.vi.n x.w.vi.cap] 28), (2, Atom.cells x_10.b2 [string ByteArray.empty, bool false, int i64 (0 : Int), slice none 0 0, slice none 0 0, slice none 0 0, slice none 0 0, slice none 0 0] 28), (3, Atom.cells x_10.b3 (x_10.raw.flatten ++ x_10.sp) 93),
 (4, Atom.cells x_10.b4 (x_10.raw2.flatten ++ x_10.sp2) 96), (5, x_10.G)]
 []))
 x_11.a x_11.ys ∧
 ∀ (y : Row),
 IsRow 9 1 x_11.ys y ∧ y.n = x_11.n →
 ((0 : Int) ≤ (↑x_10.k2 : Int) ∧ (↑x_10.k2 : Int) < (↑x_10.n2 : Int)) ∧
 ∃ (a : Option Addr),
 ∃ (l : Nat),
 ∃ (c : Nat),
 Look (Atom.cells x_10.b4 (x_10.raw2.flatten ++ x_10.sp2) 96) ⟨x_10.b4, 0 + (↑x_10.k2 : Int).toNat * 19 + 15, none⟩ (slice a l c) ∧
 FnOk Try.prog 68 (clnRC 3 1 8) ∧
 true = true ∧
 ∃ (x_12 : ClrX),
 [slice a l c] = [slice x_12.a x_12.n x_12.cap] ∧
 ([] : List Atom) = [] ∧
 (IsSrc 1 x_12.ys x_12.a x_12.n ∧ (∀ (u : Value), u ∈ x_12.ys → u.oneCell' = true) ∧ x_12.n * 8 ≤ 140737488351232 ∧ (x_12.a = none → x_12.cap = 0)) ∧
 Srcd
 (Atom.pred
 (rest
 [(0, F), (1, Atom.cells x_10.b1 [string x.c.name, bool x.c.late, int i64 x.c.script, slice x_10.s1.a x_10.s1.n x_10.s1.cap, slice x_10.s2.a x_10.s2.n x_10.s2.cap, slice (some ⟨x_10.b3, 0, none⟩) x_10.n x_10.cap, slice x.w.vd.a x.w.vd.n x.w.vd.cap, slice x.w.vi.a x.w.vi.n x.w.vi.cap] 28), (2, Atom.cells x_10.b2 [string ByteArray.empty, bool false, int i64 (0 : Int), slice none 0 0, slice none 0 0, slice none 0 0, slice none 0 0, slice none 0 0] 28), (3, Atom.cells x_10.b3 (x_10.raw.flatten ++ x_10.sp) 93),
 (4, Atom.cells x_10.b4 (x_10.raw2.flatten ++ x_10.sp2) 96), (5, x_10.G), (25110, y.A)]
 []))
 x_12.a x_12.ys ∧
 ∀ (y_1 : Row),
 IsRow 3 1 x_12.ys y_1 ∧ y_1.n = x_12.n →
 ((0 : Int) ≤ (↑x_10.k2 : Int) ∧ (↑x_10.k2 : Int) < (↑x_10.n2 : Int)) ∧
 ∃ (n_2 : Int),
 Look (Atom.cells x_10.b4 (x_10.raw2.flatten ++ x_10.sp2) 96) ⟨x_10.b4, 0 + (↑x_10.k2 : Int).toNat * 19 + 16, none⟩ (int i64 n_2) ∧
 ∃ (a : Option Addr),
 ∃ (l : Nat),
 ∃ (c : Nat),
 Look (Atom.cells x_10.b4 (x_10.raw2.flatten ++ x_10.sp2) 96) ⟨x_10.b4, 0 + (↑x_10.k2 : Int).toNat * 19 + 16 + 1, none⟩ (slice a l c) ∧
 ∃ (s : ByteArray),
 Look (Atom.cells x_10.b4 (x_10.raw2.flatten ++ x_10.sp2) 96) ⟨x_10.b4, 0 + (↑x_10.k2 : Int).toNat * 19 + 16 + 2, none⟩ (string s) ∧
 FnOk Try.prog 70 ldC ∧
 true = true ∧
 ∃ (x_13 : LdX),
 [agg { toList := [int i64 n_2, slice a l c, string s] }] = [agg { toList := [int i64 x_13.k, slice x_13.s.a x_13.s.n x_13.s.cap, string x_13.body] }] ∧
 ([] : List Atom) = [] ∧
 (IsSrc 2 x_13.ys x_13.s.a x_13.s.n ∧ (∀ (u : Value), u ∈ x_13.ys → u.oneCell' = true) ∧ x_13.s.n * 32 ≤ 140737488351232 ∧ (x_13.s.a = none → x_13.s.cap = 0)) ∧
 Srcd
 (Atom.pred
 (rest
 [(0, F), (1, Atom.cells x_10.b1 [string x.c.name, bool x.c.late, int i64 x.c.script, slice x_10.s1.a x_10.s1.n x_10.s1.cap, slice x_10.s2.a x_10.s2.n x_10.s2.cap, slice (some ⟨x_10.b3, 0, none⟩) x_10.n x_10.cap, slice x.w.vd.a x.w.vd.n x.w.vd.cap, slice x.w.vi.a x.w.vi.n x.w.vi.cap] 28), (2, Atom.cells x_10.b2 [string ByteArray.empty, bool false, int i64 (0 : Int), slice none 0 0, slice none 0 0, slice none 0 0, slice none 0 0, slice none 0 0] 28),
 (3, Atom.cells x_10.b3 (x_10.raw.flatten ++ x_10.sp) 93), (4, Atom.cells x_10.b4 (x_10.raw2.flatten ++ x_10.sp2) 96), (5, x_10.G), (25110, y.A), (25170, y_1.A)]
 []))
 x_13.s.a x_13.ys ∧
 ∀ (y_2 : Row),
 IsRow 115 2 x_13.ys y_2 ∧ y_2.n = x_13.s.n →
 ((0 : Int) ≤ (↑x_10.k2 : Int) ∧ (↑x_10.k2 : Int) < (↑x_10.n2 : Int)) ∧
 (Same ⟨x_10.b4, 0 + (↑x_10.k2 : Int).toNat * 19 + 14, none⟩ x_10.b4 ∧ 0 + (↑x_10.k2 : Int).toNat * 19 + 14 < (x_10.raw2.flatten ++ x_10.sp2).length) ∧
 ((0 : Int) ≤ (↑x_10.k2 : Int) ∧ (↑x_10.k2 : Int) < (↑x_10.n2 : Int)) ∧
 (Same ⟨x_10.b4, 0 + (↑x_10.k2 : Int).toNat * 19 + 15, none⟩ x_10.b4 ∧ 0 + (↑x_10.k2 : Int).toNat * 19 + 15 < ((x_10.raw2.flatten ++ x_10.sp2).set (0 + (↑x_10.k2 : Int).toNat * 19 + 14) (slice y.a y.n y.cap)).length) ∧
 ((0 : Int) ≤ (↑x_10.k2 : Int) ∧ (↑x_10.k2 : Int) < (↑x_10.n2 : Int)) ∧
 (Same ⟨x_10.b4, 0 + (↑x_10.k2 : Int).toNat * 19 + 16, none⟩ x_10.b4 ∧ 0 + (↑x_10.k2 : Int).toNat * 19 + 16 < (((x_10.raw2.flatten ++ x_10.sp2).set (0 + (↑x_10.k2 : Int).toNat * 19 + 14) (slice y.a y.n y.cap)).set (0 + (↑x_10.k2 : Int).toNat * 19 + 15) (slice y_1.a y_1.n y_1.cap)).length) ∧
 (Same ⟨x_10.b4, 0 + (↑x_10.k2 : Int).toNat * 19 + 16 + 1, none⟩ x_10.b4 ∧ 0 + (↑x_10.k2 : Int).toNat * 19 + 16 + 1 < ((((x_10.raw2.flatten ++ x_10.sp2).set (0 + (↑x_10.k2 : Int).toNat * 19 + 14) (slice y.a y.n y.cap)).set (0 + (↑x_10.k2 : Int).toNat * 19 + 15) (slice y_1.a y_1.n y_1.cap)).set (0 + (↑x_10.k2 : Int).toNat * 19 + 16) (int i64 x_13.k)).length) ∧
 (Same ⟨x_10.b4, 0 + (↑x_10.k2 : Int).toNat * 19 + 16 + 2, none⟩ x_10.b4 ∧ 0 + (↑x_10.k2 : Int).toNat * 19 + 16 + 2 < (((((x_10.raw2.flatten ++ x_10.sp2).set (0 + (↑x_10.k2 : Int).toNat * 19 + 14) (slice y.a y.n y.cap)).set (0 + (↑x_10.k2 : Int).toNat * 19 + 15) (slice y_1.a y_1.n y_1.cap)).set (0 + (↑x_10.k2 : Int).toNat * 19 + 16) (int i64 x_13.k)).set (0 + (↑x_10.k2 : Int).toNat * 19 + 16 + 1) (slice y_2.a y_2.n y_2.cap)).length) ∧
 ((-9223372036854775808 : Int) ≤ (↑x_10.k2 : Int) + (1 : Int) ∧ (↑x_10.k2 : Int) + (1 : Int) ≤ (9223372036854775807 : Int)) ∧
 ∃ (y_3 : CpK),
 ((SlOw y_3.G 61 13 232 (StOw y_3.G) y_3.s1 x.c.sts ∧ SlOw y_3.G 76 6 88 (TrOw y_3.G) y_3.s2 x.c.trs ∧ RwQ 1 24 (BlkOw y_3.G) (BlkIn F) y_3.n y_3.cap y_3.raw y_3.sp x.c.blks y_3.k ∧ x.c.blks[y_3.k]? = some y_3.xs ∧ RwP 96 19 304 (ActOw y_3.G) (ActIn F) y_3.r2 y_3.raw2 y_3.xs y_3.k2) ∧ y_3.k = n) ∧
 (pointer (some ⟨x_10.b1, 0, none⟩) = pointer (some ⟨y_3.b1, 0, none⟩) ∧
 pointer (some ⟨x_10.b2, 0, none⟩) = pointer (some ⟨y_3.b2, 0, none⟩) ∧ int i64 (↑x_10.k : Int) = int i64 (↑y_3.k : Int) ∧ slice (some ⟨x_10.b4, 0, none⟩) x_10.n2 x_10.cap2 = slice y_3.r2.a y_3.r2.n y_3.r2.cap ∧ int i64 (↑x_10.n : Int) = int i64 (↑y_3.n : Int) ∧ int i64 (↑x_10.k : Int) = int i64 (↑y_3.k : Int) ∧ int i64 (↑x_10.n2 : Int) = int i64 (↑y_3.r2.n : Int) ∧ int i64 ((↑x_10.k2 : Int) + (1 : Int)) = int i64 (↑y_3.k2 : Int) ∧ True) ∧
 Ent
 [(0, F), (1, Atom.cells x_10.b1 [string x.c.name, bool x.c.late, int i64 x.c.script, slice x_10.s1.a x_10.s1.n x_10.s1.cap, slice x_10.s2.a x_10.s2.n x_10.s2.cap, slice (some ⟨x_10.b3, 0, none⟩) x_10.n x_10.cap, slice x.w.vd.a x.w.vd.n x.w.vd.cap, slice x.w.vi.a x.w.vi.n x.w.vi.cap] 28), (2, Atom.cells x_10.b2 [string ByteArray.empty, bool false, int i64 (0 : Int), slice none 0 0, slice none 0 0, slice none 0 0, slice none 0 0, slice none 0 0] 28),
 (3, Atom.cells x_10.b3 (x_10.raw.flatten ++ x_10.sp) 93), (4, Atom.cells x_10.b4 ((((((x_10.raw2.flatten ++ x_10.sp2).set (0 + (↑x_10.k2 : Int).toNat * 19 + 14) (slice y.a y.n y.cap)).set (0 + (↑x_10.k2 : Int).toNat * 19 + 15) (slice y_1.a y_1.n y_1.cap)).set (0 + (↑x_10.k2 : Int).toNat * 19 + 16) (int i64 x_13.k)).set (0 + (↑x_10.k2 : Int).toNat * 19 + 16 + 1) (slice y_2.a y_2.n y_2.cap)).set (0 + (↑x_10.k2 : Int).toNat * 19 + 16 + 2) (string x_13.body)) 96), (5, x_10.G), (25110, y.A),
 (25170, y_1.A), (25230, y_2.A)]
 [(0, F), (1, Atom.cells y_3.b1 [string x.c.name, bool x.c.late, int i64 x.c.script, slice y_3.s1.a y_3.s1.n y_3.s1.cap, slice y_3.s2.a y_3.s2.n y_3.s2.cap, slice (some ⟨y_3.b3, 0, none⟩) y_3.n y_3.cap, slice x.w.vd.a x.w.vd.n x.w.vd.cap, slice x.w.vi.a x.w.vi.n x.w.vi.cap] 28), (2, Atom.cells y_3.b2 [string ByteArray.empty, bool false, int i64 (0 : Int), slice none 0 0, slice none 0 0, slice none 0 0, slice none 0 0, slice none 0 0] 28),
 (3, Atom.cells y_3.b3 (y_3.raw.flatten ++ y_3.sp) 93), (4, y_3.r2.A), (5, y_3.G)] ∧
 y_3.r2.n - y_3.k2 < x_9.r2.n - x_9.k2)
 (Same ⟨x_9.b1, 5, none⟩ x_9.b1 ∧
 ((0 : Int) ≤ (↑x_9.k : Int) ∧ (↑x_9.k : Int) < (↑x_9.n : Int)) ∧
 (Same ⟨x_9.b3, 0 + (↑x_9.k : Int).toNat * 1, none⟩ x_9.b3 ∧ 0 + (↑x_9.k : Int).toNat * 1 < (x_9.raw.flatten ++ x_9.sp).length) ∧
 ((-9223372036854775808 : Int) ≤ (↑x_9.k : Int) + (1 : Int) ∧ (↑x_9.k : Int) + (1 : Int) ≤ (9223372036854775807 : Int)) ∧
 ∃ (y : CpI),
 (SlOw y.G 61 13 232 (StOw y.G) y.s1 x.c.sts ∧ SlOw y.G 76 6 88 (TrOw y.G) y.s2 x.c.trs ∧ RwP 93 1 24 (BlkOw y.G) (BlkIn F) y.r y.raw x.c.blks y.k) ∧
 (pointer (some ⟨x_9.b1, 0, none⟩) = pointer (some ⟨y.b1, 0, none⟩) ∧ pointer (some ⟨x_9.b2, 0, none⟩) = pointer (some ⟨y.b2, 0, none⟩) ∧ int i64 (↑x_9.n : Int) = int i64 (↑y.r.n : Int) ∧ int i64 ((↑x_9.k : Int) + (1 : Int)) = int i64 (↑y.k : Int) ∧ True) ∧
 Ent
 [(0, F), (1, Atom.cells x_9.b1 [string x.c.name, bool x.c.late, int i64 x.c.script, slice x_9.s1.a x_9.s1.n x_9.s1.cap, slice x_9.s2.a x_9.s2.n x_9.s2.cap, slice (some ⟨x_9.b3, 0, none⟩) x_9.n x_9.cap, slice x.w.vd.a x.w.vd.n x.w.vd.cap, slice x.w.vi.a x.w.vi.n x.w.vi.cap] 28), (2, Atom.cells x_9.b2 [string ByteArray.empty, bool false, int i64 (0 : Int), slice none 0 0, slice none 0 0, slice none 0 0, slice none 0 0, slice none 0 0] 28),
 (3, Atom.cells x_9.b3 ((x_9.raw.flatten ++ x_9.sp).set (0 + (↑x_9.k : Int).toNat * 1) (slice x_9.r2.a x_9.r2.n x_9.r2.cap)) 93), (4, x_9.r2.A), (5, x_9.G)]
 [(0, F), (1, Atom.cells y.b1 [string x.c.name, bool x.c.late, int i64 x.c.script, slice y.s1.a y.s1.n y.s1.cap, slice y.s2.a y.s2.n y.s2.cap, slice y.r.a y.r.n y.r.cap, slice x.w.vd.a x.w.vd.n x.w.vd.cap, slice x.w.vi.a x.w.vi.n x.w.vi.cap] 28), (2, Atom.cells y.b2 [string ByteArray.empty, bool false, int i64 (0 : Int), slice none 0 0, slice none 0 0, slice none 0 0, slice none 0 0, slice none 0 0] 28), (3, y.r.A), (4, y.G)] ∧
 x.c.blks.length - y.k < x.c.blks.length - x_6.k))
 (Same ⟨x_6.b1, 6, none⟩ x_6.b1 ∧
 FnOk Try.prog 75 (clnRC 98 3 48) ∧
 true = true ∧
 ∃ (x_7 : ClrX),
 [slice x.w.vd.a x.w.vd.n x.w.vd.cap] = [slice x_7.a x_7.n x_7.cap] ∧
 ([] : List Atom) = [] ∧
 (IsSrc 3 x_7.ys x_7.a x_7.n ∧ (∀ (u : Value), u ∈ x_7.ys → u.oneCell' = true) ∧ x_7.n * 48 ≤ 140737488351232 ∧ (x_7.a = none → x_7.cap = 0)) ∧
 Srcd (Atom.pred (rest [(0, F), (1, Atom.cells x_6.b1 [string x.c.name, bool x.c.late, int i64 x.c.script, slice x_6.s1.a x_6.s1.n x_6.s1.cap, slice x_6.s2.a x_6.s2.n x_6.s2.cap, slice x_6.r.a x_6.r.n x_6.r.cap, slice x.w.vd.a x.w.vd.n x.w.vd.cap, slice x.w.vi.a x.w.vi.n x.w.vi.cap] 28), (2, Atom.cells x_6.b2 [string ByteArray.empty, bool false, int i64 (0 : Int), slice none 0 0, slice none 0 0, slice none 0 0, slice none 0 0, slice none 0 0] 28), (3, x_6.r.A), (4, x_6.G)] [])) x_7.a x_7.ys ∧
 ∀ (y : Row),
 IsRow 98 3 x_7.ys y ∧ y.n = x_7.n →
 Same ⟨x_6.b1, 6, none⟩ x_6.b1 ∧
 Same ⟨x_6.b1, 7, none⟩ x_6.b1 ∧
 FnOk Try.prog 76 (clnRC 101 8 104) ∧
 true = true ∧
 ∃ (x_8 : ClrX),
 [slice x.w.vi.a x.w.vi.n x.w.vi.cap] = [slice x_8.a x_8.n x_8.cap] ∧
 ([] : List Atom) = [] ∧
 (IsSrc 8 x_8.ys x_8.a x_8.n ∧ (∀ (u : Value), u ∈ x_8.ys → u.oneCell' = true) ∧ x_8.n * 104 ≤ 140737488351232 ∧ (x_8.a = none → x_8.cap = 0)) ∧
 Srcd (Atom.pred (rest [(0, F), (1, Atom.cells x_6.b1 [string x.c.name, bool x.c.late, int i64 x.c.script, slice x_6.s1.a x_6.s1.n x_6.s1.cap, slice x_6.s2.a x_6.s2.n x_6.s2.cap, slice x_6.r.a x_6.r.n x_6.r.cap, slice y.a y.n y.cap, slice x.w.vi.a x.w.vi.n x.w.vi.cap] 28), (2, Atom.cells x_6.b2 [string ByteArray.empty, bool false, int i64 (0 : Int), slice none 0 0, slice none 0 0, slice none 0 0, slice none 0 0, slice none 0 0] 28), (3, x_6.r.A), (4, x_6.G), (29020, y.A)] [])) x_8.a x_8.ys ∧
 ∀ (y_1 : Row),
 IsRow 101 8 x_8.ys y_1 ∧ y_1.n = x_8.n →
 Same ⟨x_6.b1, 7, none⟩ x_6.b1 ∧
 Same ⟨x_6.b1, 7, none⟩ x_6.b1 ∧
 (∃ (x_9 : CpI),
 (SlOw x_9.G 61 13 232 (StOw x_9.G) x_9.s1 x.c.sts ∧ SlOw x_9.G 76 6 88 (TrOw x_9.G) x_9.s2 x.c.trs ∧ SlOw x_9.G 93 1 24 (BlkOw x_9.G) x_9.s3 x.c.blks ∧ SlOw x_9.G 98 3 48 DatIn x_9.s4 x.c.data ∧ RwP 101 8 104 (InvOw x_9.G) (InvIn F) x_9.r x_9.raw x.c.invs x_9.k) ∧
 (pointer (some ⟨x_6.b1, 0, none⟩) = pointer (some ⟨x_9.b1, 0, none⟩) ∧ pointer (some ⟨x_6.b2, 0, none⟩) = pointer (some ⟨x_9.b2, 0, none⟩) ∧ int i64 (↑y_1.n : Int) = int i64 (↑x_9.r.n : Int) ∧ int i64 (0 : Int) = int i64 (↑x_9.k : Int) ∧ True) ∧
 Ent [(0, F), (1, Atom.cells x_6.b1 [string x.c.name, bool x.c.late, int i64 x.c.script, slice x_6.s1.a x_6.s1.n x_6.s1.cap, slice x_6.s2.a x_6.s2.n x_6.s2.cap, slice x_6.r.a x_6.r.n x_6.r.cap, slice y.a y.n y.cap, slice y_1.a y_1.n y_1.cap] 28), (2, Atom.cells x_6.b2 [string ByteArray.empty, bool false, int i64 (0 : Int), slice none 0 0, slice none 0 0, slice none 0 0, slice none 0 0, slice none 0 0] 28), (3, x_6.r.A), (4, x_6.G), (29020, y.A), (30020, y_1.A)]
 [(0, F), (1, Atom.cells x_9.b1 [string x.c.name, bool x.c.late, int i64 x.c.script, slice x_9.s1.a x_9.s1.n x_9.s1.cap, slice x_9.s2.a x_9.s2.n x_9.s2.cap, slice x_9.s3.a x_9.s3.n x_9.s3.cap, slice x_9.s4.a x_9.s4.n x_9.s4.cap, slice x_9.r.a x_9.r.n x_9.r.cap] 28), (2, Atom.cells x_9.b2 [string ByteArray.empty, bool false, int i64 (0 : Int), slice none 0 0, slice none 0 0, slice none 0 0, slice none 0 0, slice none 0 0] 28), (3, x_9.r.A), (4, x_9.G)]) ∧
 ∀ (x_9 : CpI) (js : Nat → Value),
 SlOw x_9.G 61 13 232 (StOw x_9.G) x_9.s1 x.c.sts ∧ SlOw x_9.G 76 6 88 (TrOw x_9.G) x_9.s2 x.c.trs ∧ SlOw x_9.G 93 1 24 (BlkOw x_9.G) x_9.s3 x.c.blks ∧ SlOw x_9.G 98 3 48 DatIn x_9.s4 x.c.data ∧ RwP 101 8 104 (InvOw x_9.G) (InvIn F) x_9.r x_9.raw x.c.invs x_9.k →
 Br (decide ((↑x_9.k : Int) < (↑x_9.r.n : Int)))
 (∃ (n : Nat),
 (∃ (x_10 : CpJ),
 ((SlOw x_10.G 61 13 232 (StOw x_10.G) x_10.s1 x.c.sts ∧ SlOw x_10.G 76 6 88 (TrOw x_10.G) x_10.s2 x.c.trs ∧ SlOw x_10.G 93 1 24 (BlkOw x_10.G) x_10.s3 x.c.blks ∧ SlOw x_10.G 98 3 48 DatIn x_10.s4 x.c.data ∧ RwQ 8 104 (InvOw x_10.G) (InvIn F) x_10.n x_10.cap x_10.raw x_10.sp x.c.invs x_10.k) ∧ x_10.k = n) ∧
 (pointer (some ⟨x_9.b1, 0, none⟩) = pointer (some ⟨x_10.b1, 0, none⟩) ∧ pointer (some ⟨x_9.b2, 0, none⟩) = pointer (some ⟨x_10.b2, 0, none⟩) ∧ int i64 (↑x_9.k : Int) = int i64 (↑x_10.k : Int) ∧ int i64 (↑x_9.r.n : Int) = int i64 (↑x_10.n : Int) ∧ int i64 (↑x_9.k : Int) = int i64 (↑x_10.k : Int) ∧ True) ∧
 Ent [(0, F), (1, Atom.cells x_9.b1 [string x.c.name, bool x.c.late, int i64 x.c.script, slice x_9.s1.a x_9.s1.n x_9.s1.cap, slice x_9.s2.a x_9.s2.n x_9.s2.cap, slice x_9.s3.a x_9.s3.n x_9.s3.cap, slice x_9.s4.a x_9.s4.n x_9.s4.cap, slice x_9.r.a x_9.r.n x_9.r.cap] 28), (2, Atom.cells x_9.b2 [string ByteArray.empty, bool false, int i64 (0 : Int), slice none 0 0, slice none 0 0, slice none 0 0, slice none 0 0, slice none 0 0] 28), (3, x_9.r.A), (4, x_9.G)]
 [(0, F), (1, Atom.cells x_10.b1 [string x.c.name, bool x.c.late, int i64 x.c.script, slice x_10.s1.a x_10.s1.n x_10.s1.cap, slice x_10.s2.a x_10.s2.n x_10.s2.cap, slice x_10.s3.a x_10.s3.n x_10.s3.cap, slice x_10.s4.a x_10.s4.n x_10.s4.cap, slice (some ⟨x_10.b3, 0, none⟩) x_10.n x_10.cap] 28), (2, Atom.cells x_10.b2 [string ByteArray.empty, bool false, int i64 (0 : Int), slice none 0 0, slice none 0 0, slice none 0 0, slice none 0 0, slice none 0 0] 28), (3, Atom.cells x_10.b3 (x_10.raw.flatten ++ x_10.sp) 101), (4, x_10.G)]) ∧
 ∀ (x_10 : CpJ) (js : Nat → Value),
 (SlOw x_10.G 61 13 232 (StOw x_10.G) x_10.s1 x.c.sts ∧ SlOw x_10.G 76 6 88 (TrOw x_10.G) x_10.s2 x.c.trs ∧ SlOw x_10.G 93 1 24 (BlkOw x_10.G) x_10.s3 x.c.blks ∧ SlOw x_10.G 98 3 48 DatIn x_10.s4 x.c.data ∧ RwQ 8 104 (InvOw x_10.G) (InvIn F) x_10.n x_10.cap x_10.raw x_10.sp x.c.invs x_10.k) ∧ x_10.k = n →
 true = true ∧
 Same ⟨x_10.b1, 7, none⟩ x_10.b1 ∧
 Same ⟨x_10.b1, 7, none⟩ x_10.b1 ∧
 ((0 : Int) ≤ (↑x_10.k : Int) ∧ (↑x_10.k : Int) < (↑x_10.n : Int)) ∧
 ∃ (n : Int),
 Look (Atom.cells x_10.b3 (x_10.raw.flatten ++ x_10.sp) 101) ⟨x_10.b3, 0 + (↑x_10.k : Int).toNat * 8 + 4, none⟩ (int i64 n) ∧
 ∃ (a : Option Addr),
 ∃ (l : Nat),
 ∃ (c : Nat),
 Look (Atom.cells x_10.b3 (x_10.raw.flatten ++ x_10.sp) 101) ⟨x_10.b3, 0 + (↑x_10.k : Int).toNat * 8 + 4 + 1, none⟩ (slice a l c) ∧
 ∃ (s : ByteArray),
 Look (Atom.cells x_10.b3 (x_10.raw.flatten ++ x_10.sp) 101) ⟨x_10.b3, 0 + (↑x_10.k : Int).toNat * 8 + 4 + 2, none⟩ (string s) ∧
 FnOk Try.prog 70 ldC ∧
 true = true ∧
 ∃ (x_11 : LdX),
 [agg { toList := [int i64 n, slice a l c, string s] }] = [agg { toList := [int i64 x_11.k, slice x_11.s.a x_11.s.n x_11.s.cap, string x_11.body] }] ∧
 ([] : List Atom) = [] ∧
 (IsSrc 2 x_11.ys x_11.s.a x_11.s.n ∧ (∀ (u : Value), u ∈ x_11.ys → u.oneCell' = true) ∧ x_11.s.n * 32 ≤ 140737488351232 ∧ (x_11.s.a = none → x_11.s.cap = 0)) ∧
 Srcd
 (Atom.pred
 (rest
 [(0, F), (1, Atom.cells x_10.b1 [string x.c.name, bool x.c.late, int i64 x.c.script, slice x_10.s1.a x_10.s1.n x_10.s1.cap, slice x_10.s2.a x_10.s2.n x_10.s2.cap, slice x_10.s3.a x_10.s3.n x_10.s3.cap, slice x_10.s4.a x_10.s4.n x_10.s4.cap, slice (some ⟨x_10.b3, 0, none⟩) x_10.n x_10.cap] 28), (2, Atom.cells x_10.b2 [string ByteArray.empty, bool false, int i64 (0 : Int), slice none 0 0, slice none 0 0, slice none 0 0, slice none 0 0, slice none 0 0] 28), (3, Atom.cells x_10.b3 (x_10.raw.flatten ++ x_10.sp) 101),
 (4, x_10.G)]
 []))
 x_11.s.a x_11.ys ∧
 ∀ (y : Row),
 IsRow 115 2 x_11.ys y ∧ y.n = x_11.s.n →
 ((0 : Int) ≤ (↑x_10.k : Int) ∧ (↑x_10.k : Int) < (↑x_10.n : Int)) ∧
 (Same ⟨x_10.b3, 0 + (↑x_10.k : Int).toNat * 8 + 4, none⟩ x_10.b3 ∧ 0 + (↑x_10.k : Int).toNat * 8 + 4 < (x_10.raw.flatten ++ x_10.sp).length) ∧
 (Same ⟨x_10.b3, 0 + (↑x_10.k : Int).toNat * 8 + 4 + 1, none⟩ x_10.b3 ∧ 0 + (↑x_10.k : Int).toNat * 8 + 4 + 1 < ((x_10.raw.flatten ++ x_10.sp).set (0 + (↑x_10.k : Int).toNat * 8 + 4) (int i64 x_11.k)).length) ∧
 (Same ⟨x_10.b3, 0 + (↑x_10.k : Int).toNat * 8 + 4 + 2, none⟩ x_10.b3 ∧ 0 + (↑x_10.k : Int).toNat * 8 + 4 + 2 < (((x_10.raw.flatten ++ x_10.sp).set (0 + (↑x_10.k : Int).toNat * 8 + 4) (int i64 x_11.k)).set (0 + (↑x_10.k : Int).toNat * 8 + 4 + 1) (slice y.a y.n y.cap)).length) ∧
 ((-9223372036854775808 : Int) ≤ (↑x_10.k : Int) + (1 : Int) ∧ (↑x_10.k : Int) + (1 : Int) ≤ (9223372036854775807 : Int)) ∧
 ∃ (y_2 : CpI),
 (SlOw y_2.G 61 13 232 (StOw y_2.G) y_2.s1 x.c.sts ∧ SlOw y_2.G 76 6 88 (TrOw y_2.G) y_2.s2 x.c.trs ∧ SlOw y_2.G 93 1 24 (BlkOw y_2.G) y_2.s3 x.c.blks ∧ SlOw y_2.G 98 3 48 DatIn y_2.s4 x.c.data ∧ RwP 101 8 104 (InvOw y_2.G) (InvIn F) y_2.r y_2.raw x.c.invs y_2.k) ∧
 (pointer (some ⟨x_10.b1, 0, none⟩) = pointer (some ⟨y_2.b1, 0, none⟩) ∧ pointer (some ⟨x_10.b2, 0, none⟩) = pointer (some ⟨y_2.b2, 0, none⟩) ∧ int i64 (↑x_10.n : Int) = int i64 (↑y_2.r.n : Int) ∧ int i64 ((↑x_10.k : Int) + (1 : Int)) = int i64 (↑y_2.k : Int) ∧ True) ∧
 Ent
 [(0, F), (1, Atom.cells x_10.b1 [string x.c.name, bool x.c.late, int i64 x.c.script, slice x_10.s1.a x_10.s1.n x_10.s1.cap, slice x_10.s2.a x_10.s2.n x_10.s2.cap, slice x_10.s3.a x_10.s3.n x_10.s3.cap, slice x_10.s4.a x_10.s4.n x_10.s4.cap, slice (some ⟨x_10.b3, 0, none⟩) x_10.n x_10.cap] 28), (2, Atom.cells x_10.b2 [string ByteArray.empty, bool false, int i64 (0 : Int), slice none 0 0, slice none 0 0, slice none 0 0, slice none 0 0, slice none 0 0] 28),
 (3, Atom.cells x_10.b3 ((((x_10.raw.flatten ++ x_10.sp).set (0 + (↑x_10.k : Int).toNat * 8 + 4) (int i64 x_11.k)).set (0 + (↑x_10.k : Int).toNat * 8 + 4 + 1) (slice y.a y.n y.cap)).set (0 + (↑x_10.k : Int).toNat * 8 + 4 + 2) (string x_11.body)) 101), (4, x_10.G), (34090, y.A)]
 [(0, F), (1, Atom.cells y_2.b1 [string x.c.name, bool x.c.late, int i64 x.c.script, slice y_2.s1.a y_2.s1.n y_2.s1.cap, slice y_2.s2.a y_2.s2.n y_2.s2.cap, slice y_2.s3.a y_2.s3.n y_2.s3.cap, slice y_2.s4.a y_2.s4.n y_2.s4.cap, slice y_2.r.a y_2.r.n y_2.r.cap] 28), (2, Atom.cells y_2.b2 [string ByteArray.empty, bool false, int i64 (0 : Int), slice none 0 0, slice none 0 0, slice none 0 0, slice none 0 0, slice none 0 0] 28), (3, y_2.r.A), (4, y_2.G)] ∧
 x.c.invs.length - y_2.k < x.c.invs.length - x_9.k)
 (Same ⟨x_9.b1, 0, none⟩ x_9.b1 ∧
 Same ⟨x_9.b1, 1, none⟩ x_9.b1 ∧
 Same ⟨x_9.b1, 2, none⟩ x_9.b1 ∧
 Same ⟨x_9.b1, 3, none⟩ x_9.b1 ∧
 Same ⟨x_9.b1, 4, none⟩ x_9.b1 ∧
 Same ⟨x_9.b1, 5, none⟩ x_9.b1 ∧
 Same ⟨x_9.b1, 6, none⟩ x_9.b1 ∧
 Same ⟨x_9.b1, 7, none⟩ x_9.b1 ∧
 Same ⟨x_9.b2, 0, none⟩ x_9.b2 ∧
 Same ⟨x_9.b2, 1, none⟩ x_9.b2 ∧
 Same ⟨x_9.b2, 2, none⟩ x_9.b2 ∧
 Same ⟨x_9.b2, 3, none⟩ x_9.b2 ∧
 Same ⟨x_9.b2, 4, none⟩ x_9.b2 ∧
 Same ⟨x_9.b2, 5, none⟩ x_9.b2 ∧
 Same ⟨x_9.b2, 6, none⟩ x_9.b2 ∧
 Same ⟨x_9.b2, 7, none⟩ x_9.b2 ∧
 Same ⟨x_9.b2, 0, none⟩ x_9.b2 ∧
 Same ⟨x_9.b2, 1, none⟩ x_9.b2 ∧
 Same ⟨x_9.b2, 2, none⟩ x_9.b2 ∧
 Same ⟨x_9.b2, 3, none⟩ x_9.b2 ∧
 Same ⟨x_9.b2, 4, none⟩ x_9.b2 ∧
 Same ⟨x_9.b2, 5, none⟩ x_9.b2 ∧
 Same ⟨x_9.b2, 6, none⟩ x_9.b2 ∧
 Same ⟨x_9.b2, 7, none⟩ x_9.b2 ∧
 Done cloneC x F (Ending.returned (agg { toList := [string x.c.name, bool x.c.late, int i64 x.c.script, slice x_9.s1.a x_9.s1.n x_9.s1.cap, slice x_9.s2.a x_9.s2.n x_9.s2.cap, slice x_9.s3.a x_9.s3.n x_9.s3.cap, slice x_9.s4.a x_9.s4.n x_9.s4.cap, slice x_9.r.a x_9.r.n x_9.r.cap] }))
 [(0, F), (1, Atom.cells x_9.b1 [string x.c.name, bool x.c.late, int i64 x.c.script, slice x_9.s1.a x_9.s1.n x_9.s1.cap, slice x_9.s2.a x_9.s2.n x_9.s2.cap, slice x_9.s3.a x_9.s3.n x_9.s3.cap, slice x_9.s4.a x_9.s4.n x_9.s4.cap, slice x_9.r.a x_9.r.n x_9.r.cap] 28), (2, Atom.cells x_9.b2 [string x.c.name, bool x.c.late, int i64 x.c.script, slice x_9.s1.a x_9.s1.n x_9.s1.cap, slice x_9.s2.a x_9.s2.n x_9.s2.cap, slice x_9.s3.a x_9.s3.n x_9.s3.cap, slice x_9.s4.a x_9.s4.n x_9.s4.cap, slice x_9.r.a x_9.r.n x_9.r.cap] 28), (3, x_9.r.A), (4, x_9.G)])))) := by
  obtain ⟨c, w⟩ := x
  replace hr : ChIn F w.v c := hr
  obtain ⟨h1, h2, h3, h4, h5⟩ := hr
  dsimp only [ChS.v] at h1 h2 h3 h4 h5
  obtain ⟨raw1, c1, s1, g1⟩ := rw_start h1 st1
  obtain ⟨raw2, c2, s2, g2⟩ := rw_start h2 tr1
  obtain ⟨raw3, c3, s3, g3⟩ := rw_start h3 blk1
  obtain ⟨z4, e4, c4, s4, g4⟩ := h4.cl dat1
  obtain ⟨raw5, c5, s5, g5⟩ := rw_start h5 inv1
  intro b1 b2
  refine ⟨⟨rfl, rfl⟩, clnS_ok, rfl, ⟨_, _, _, raw1.flatten⟩, rfl, rfl, c1, s1.sub (sub_rest 0 (by simp) rfl), fun y hy => ⟨⟨rfl, rfl⟩, ⟨rfl, rfl⟩, ⟨⟨b1, b2, sl0, sl0, sl0, sl0, 0, y, raw1, .emp⟩, g1 _ _ y hy, ⟨rfl, rfl, rfl, rfl, trivial⟩, Ent.pick [0, 1000, 1010, 2020, 77] rfl rfl⟩, ?_⟩⟩
  clear hy y b1 b2 g1 c1 s1
  rintro ⟨b1, b2, t1, t2, t3, t4, k, r, raw, G⟩ js hP
  dsimp only at hP ⊢
  refine br_decide (fun hlt => ?_) (fun hge => ?_)
  · obtain ⟨b3, n, cap, sp, rfl, hQ⟩ := rw_enter hP (by omega)
    refine ⟨k, ⟨⟨rfl, rfl⟩, ixq_ok 13 rfl rfl rfl rfl, ⟨b3, 0, n, cap, k⟩, rfl, by dsimp only at hlt ⊢; omega, ⟨b1, b2, t1, t2, t3, t4, k, b3, n, cap, raw, sp, G⟩, ⟨hQ, rfl⟩, ⟨rfl, rfl, ?_, rfl, rfl, trivial⟩, Ent.pick [0, 1, 2, 3, 4] rfl rfl⟩, ?_⟩
    · dsimp only
      rw [Int.toNat_natCast, Nat.zero_add]
    clear hP hlt hQ
    rintro ⟨b1, b2, t1, t2, t3, t4, k, b3, n, cap, raw, sp, G⟩ js ⟨hQ, rfl⟩
    dsimp only at hQ ⊢
    obtain ⟨row, st, hrow, hst, ⟨vk, ve, vx, vt, vd, vi, vp, rfl, p1, p2, p3, p4, p5, p6, p7⟩, hb⟩ := rw_row hQ
    obtain ⟨z1, rfl, zc1, zs1, zr1⟩ := SlIn.cl p1 int1
    obtain ⟨z2, rfl, zc2, zs2, zr2⟩ := SlIn.cl p2 int1
    obtain ⟨z3, rfl, zc3, zs3, zr3⟩ := SlIn.cl p3 int1
    obtain ⟨z4', rfl, zc4, zs4, zr4⟩ := SlIn.cl p4 int1
    obtain ⟨z5, rfl, zc5, zs5, zr5⟩ := SlIn.cl p5 int1
    obtain ⟨z6, rfl, zc6, zs6, zr6⟩ := SlIn.cl p6 int1
    obtain ⟨z7, rfl, zc7, zs7, zr7⟩ := SlIn.cl p7 par1
    have hg := fun ws hw j u hu => sets_get (sp := sp) ws hQ.2.2.2.2.2.wid hrow hw j u hu
    refine ⟨rfl, _, _, _, Look.cells (hg [] (by simp) 3 _ rfl), clnI_ok, rfl, z1, rfl, rfl, zc1, zs1.sub (sub_rest 0 (by simp) rfl), fun y1 hy1 => ?_⟩
    refine ⟨_, _, _, Look.cells (hg [] (by simp) 5 _ rfl), clnI_ok, rfl, z2, rfl, rfl, zc2, zs2.sub (sub_rest 0 (by simp) rfl), fun y2 hy2 => ?_⟩
    refine ⟨_, _, _, Look.cells (hg [] (by simp) 6 _ rfl), clnI_ok, rfl, z3, rfl, rfl, zc3, zs3.sub (sub_rest 0 (by simp) rfl), fun y3 hy3 => ?_⟩
    refine ⟨⟨⟨rfl, rfl⟩, by omega⟩, ⟨⟨rfl, rfl⟩, by simp only [List.length_set]; omega⟩, ⟨⟨rfl, rfl⟩, by simp only [List.length_set]; omega⟩, rfl, ?_⟩
    refine ⟨_, _, _, Look.cells (hg [(3, y1.v), (5, y2.v), (6, y3.v)] (by simp) 7 _ rfl), clnI_ok, rfl, z4', rfl, rfl, zc4, zs4.sub (sub_rest 0 (by simp) rfl), fun y4 hy4 => ?_⟩
    refine ⟨_, _, _, Look.cells (hg [(3, y1.v), (5, y2.v), (6, y3.v)] (by simp) 8 _ rfl), clnI_ok, rfl, z5, rfl, rfl, zc5, zs5.sub (sub_rest 0 (by simp) rfl), fun y5 hy5 => ?_⟩
    refine ⟨_, _, _, Look.cells (hg [(3, y1.v), (5, y2.v), (6, y3.v)] (by simp) 9 _ rfl), clnI_ok, rfl, z6, rfl, rfl, zc6, zs6.sub (sub_rest 0 (by simp) rfl), fun y6 hy6 => ?_⟩
    refine ⟨⟨⟨rfl, rfl⟩, by simp only [List.length_set]; omega⟩, ⟨⟨rfl, rfl⟩, by simp only [List.length_set]; omega⟩, ⟨⟨rfl, rfl⟩, by simp only [List.length_set]; omega⟩, ?_⟩
    refine ⟨_, Look.cells (hg [(3, y1.v), (5, y2.v), (6, y3.v), (7, y4.v), (8, y5.v), (9, y6.v)] (by simp) 10 _ rfl), _, _, _, Look.cells (hg [(3, y1.v), (5, y2.v), (6, y3.v), (7, y4.v), (8, y5.v), (9, y6.v)] (by simp) 11 _ rfl), _, Look.cells (hg [(3, y1.v), (5, y2.v), (6, y3.v), (7, y4.v), (8, y5.v), (9, y6.v)] (by simp) 12 _ rfl), ld_ok, rfl, ⟨_, ⟨z7.a, z7.n, z7.cap⟩, _, z7.ys⟩, rfl, rfl, zc7, zs7.sub (sub_rest 0 (by simp) rfl), fun y7 hy7 => ?_⟩
    refine ⟨⟨⟨rfl, rfl⟩, by simp only [List.length_set]; omega⟩, ⟨⟨rfl, rfl⟩, by simp only [List.length_set]; omega⟩, ⟨⟨rfl, rfl⟩, by simp only [List.length_set]; omega⟩, ?_⟩
    have hkn := hQ.2.2.2.1
    have hn := hQ.2.2.1
    have hnx := hQ.2.2.2.2.1
    have hG : SubO G (bagA [G, y1.A, y2.A, y3.A, y4.A, y5.A, y6.A, y7.A]) := subO_bag 0 rfl
    refine ⟨by omega, ⟨b1, b2, t1, t2, t3, t4, k + 1, _, _, bagA [G, y1.A, y2.A, y3.A, y4.A, y5.A, y6.A, y7.A]⟩, rw_step hQ hrow hst [(3, y1.v), (5, y2.v), (6, y3.v), (7, y4.v), (8, y5.v), (9, y6.v), (10, .int .i64 st.done.kind), (11, y7.v), (12, .string st.done.body)] (by simp) ?_ (fun _ _ h => h.mono hG) ?_ b3, ⟨rfl, rfl, rfl, rfl, trivial⟩, Ent.bag [0, 1, 2, 3] [4, 7070, 7120, 7170, 8070, 8120, 8170, 9050] rfl rfl, by dsimp only; omega⟩
    · intro u hu
      simp only [wr1, List.foldl, List.set, Row.v, List.mem_cons, List.not_mem_nil, or_false] at hu
      rcases hu with rfl | rfl | rfl | rfl | rfl | rfl | rfl | rfl | rfl | rfl | rfl | rfl | rfl <;> rfl
    · exact ⟨y1.sl, y2.sl, y3.sl, y4.sl, y5.sl, y6.sl, y7.sl, rfl, zr1 _ _ hy1 _ (subO_bag 1 rfl), zr2 _ _ hy2 _ (subO_bag 2 rfl), zr3 _ _ hy3 _ (subO_bag 3 rfl), zr4 _ _ hy4 _ (subO_bag 4 rfl), zr5 _ _ hy5 _ (subO_bag 5 rfl), zr6 _ _ hy6 _ (subO_bag 6 rfl), zr7 _ _ hy7 _ (subO_bag 7 rfl)⟩
  have w1 := rw_end (P' := StOw (bagA [G, r.A])) hP (by omega) (G := bagA [G, r.A]) (subO_bag 1 rfl) (fun _ _ h => h.mono (subO_bag 0 rfl))
  refine ⟨⟨rfl, rfl⟩, clnT_ok, rfl, ⟨_, _, _, raw2.flatten⟩, rfl, rfl, c2, s2.sub (sub_rest 0 (by simp) rfl), fun y hy => ⟨⟨rfl, rfl⟩, ⟨rfl, rfl⟩, ⟨⟨b1, b2, r.sl, sl0, sl0, sl0, 0, y, raw2, bagA [G, r.A]⟩, ⟨w1, g2 _ _ y hy⟩, ⟨rfl, rfl, rfl, rfl, trivial⟩, Ent.bag [0, 1, 2, 11020] [4, 3] rfl rfl⟩, ?_⟩⟩
  clear w1 hy y b1 b2 g2 c2 s2 hP hge r raw G k
  have e0 : ∀ (k w : Nat), 0 + (k : Int).toNat * w = k * w := fun k w => by rw [Int.toNat_natCast, Nat.zero_add]
  rintro ⟨b1, b2, t1, t2, t3, t4, k, r, raw, G⟩ js2 ⟨w1, hP⟩
  dsimp only at w1 hP ⊢
  refine br_decide (fun hlt => ?_) (fun hge => ?_)
  · obtain ⟨b3, n, cap, sp, rfl, hQ⟩ := rw_enter hP (by omega)
    refine ⟨k, ⟨⟨b1, b2, t1, t2, t3, t4, k, b3, n, cap, raw, sp, G⟩, ⟨⟨w1, hQ⟩, rfl⟩, ⟨rfl, rfl, rfl, rfl, rfl, trivial⟩, Ent.pick [0, 1, 2, 3, 4] rfl rfl⟩, ?_⟩
    clear hP hlt hQ w1
    rintro ⟨b1, b2, t1, t2, t3, t4, k, b3, n, cap, raw, sp, G⟩ js ⟨⟨w1, hQ⟩, rfl⟩
    dsimp only at w1 hQ ⊢
    obtain ⟨row, tr, hrow, htr, ⟨ve, vt, rfl, p1, p2⟩, hb⟩ := rw_row hQ
    obtain ⟨z1, rfl, zc1, zs1, zr1⟩ := SlIn.cl p1 str1
    obtain ⟨z2, rfl, zc2, zs2, zr2⟩ := SlIn.cl p2 int1
    have hg := fun ws hw j u hu => sets_get (sp := sp) ws hQ.2.2.2.2.2.wid hrow hw j u hu
    have hkn := hQ.2.2.2.1
    have hn := hQ.2.2.1
    have hnx := hQ.2.2.2.2.1
    rw [e0]
    refine ⟨rfl, ⟨rfl, rfl⟩, ⟨rfl, rfl⟩, ⟨rfl, rfl⟩, ⟨by omega, by omega⟩, _, _, _, Look.cells (hg [] (by simp) 1 _ rfl), clnZ_ok, rfl, z1, rfl, rfl, zc1, zs1.sub (sub_rest 0 (by simp) rfl), fun y1 hy1 => ?_⟩
    refine ⟨⟨rfl, rfl⟩, ⟨by omega, by omega⟩, _, _, _, Look.cells (hg [] (by simp) 3 _ rfl), clnI_ok, rfl, z2, rfl, rfl, zc2, zs2.sub (sub_rest 0 (by simp) rfl), fun y2 hy2 => ?_⟩
    refine ⟨⟨by omega, by omega⟩, ⟨⟨rfl, rfl⟩, by omega⟩, ⟨by omega, by omega⟩, ⟨⟨rfl, rfl⟩, by simp only [List.length_set]; omega⟩, ⟨by omega, by omega⟩, ?_⟩
    have hG : SubO G (bagA [G, y1.A, y2.A]) := subO_bag 0 rfl
    refine ⟨⟨b1, b2, t1, t2, t3, t4, k + 1, _, _, bagA [G, y1.A, y2.A]⟩, ⟨w1.mono hG fun _ _ h => h.mono hG, rw_step hQ hrow htr [(1, y1.v), (3, y2.v)] (by simp) ?_ (fun _ _ h => h.mono hG) ?_ b3⟩, ⟨rfl, rfl, rfl, rfl, trivial⟩, Ent.bag [0, 1, 2, 3] [4, 15120, 15190] rfl rfl, by dsimp only; omega⟩
    · intro u hu
      simp only [wr1, List.foldl, List.set, Row.v, List.mem_cons, List.not_mem_nil, or_false] at hu
      rcases hu with rfl | rfl | rfl | rfl | rfl | rfl <;> rfl
    · exact ⟨y1.sl, y2.sl, rfl, zr1 _ _ hy1 _ (subO_bag 1 rfl), zr2 _ _ hy2 _ (subO_bag 2 rfl)⟩
  have w2 := rw_end (P' := TrOw (bagA [G, r.A])) hP (by omega) (G := bagA [G, r.A]) (subO_bag 1 rfl) (fun _ _ h => h.mono (subO_bag 0 rfl))
  have hG : SubO G (bagA [G, r.A]) := subO_bag 0 rfl
  refine ⟨⟨rfl, rfl⟩, clnB_ok, rfl, ⟨_, _, _, raw3.flatten⟩, rfl, rfl, c3, s3.sub (sub_rest 0 (by simp) rfl), fun y hy => ⟨⟨rfl, rfl⟩, ⟨rfl, rfl⟩, ⟨⟨b1, b2, t1, r.sl, sl0, sl0, 0, y, raw3, bagA [G, r.A]⟩, ⟨w1.mono hG fun _ _ h => h.mono hG, w2, g3 _ _ y hy⟩, ⟨rfl, rfl, rfl, rfl, trivial⟩, Ent.bag [0, 1, 2, 17020] [4, 3] rfl rfl⟩, ?_⟩⟩
  clear w1 w2 hG hy y b1 b2 g3 c3 s3 hP hge r raw G k
  rintro ⟨b1, b2, t1, t2, t3, t4, k, r, raw, G⟩ js3 ⟨w1, w2, hP⟩
  dsimp only at w1 w2 hP ⊢
  refine br_decide (fun hlt => ?_) (fun hge => ?_)
  · obtain ⟨b3, n, cap, sp, rfl, hQ⟩ := rw_enter hP (by omega)
    refine ⟨k, ⟨⟨b1, b2, t1, t2, t3, t4, k, b3, n, cap, raw, sp, G⟩, ⟨⟨w1, w2, hQ⟩, rfl⟩, ⟨rfl, rfl, rfl, rfl, rfl, trivial⟩, Ent.pick [0, 1, 2, 3, 4] rfl rfl⟩, ?_⟩
    clear hP hlt hQ w1 w2
    rintro ⟨b1, b2, t1, t2, t3, t4, k, b3, n, cap, raw, sp, G⟩ js ⟨⟨w1, w2, hQ⟩, rfl⟩
    dsimp only at w1 w2 hQ ⊢
    obtain ⟨row, acts, hrow, hacts, ⟨va, rfl, p1⟩, hb⟩ := rw_row hQ
    obtain ⟨a, m, mc, rfl⟩ : ∃ a m mc, va = .slice a m mc := by
      obtain ⟨a, m, mc, _, h, _⟩ := p1
      exact ⟨a, m, mc, h⟩
    obtain ⟨raw2, zc1, zs1, zr1⟩ := rw_start p1 act1
    have hg := fun ws hw j u hu => sets_get (sp := sp) ws hQ.2.2.2.2.2.wid hrow hw j u hu
    have hkn := hQ.2.2.2.1
    have hn := hQ.2.2.1
    have hnx := hQ.2.2.2.2.1
    rw [e0]
    refine ⟨⟨rfl, rfl⟩, ⟨by omega, by omega⟩, _, _, _, Look.cells (hg [] (by simp) 0 _ rfl), clnA_ok, rfl, ⟨a, m, mc, raw2.flatten⟩, rfl, rfl, zc1, zs1.sub (sub_rest 0 (by simp) rfl), fun y1 hy1 => ⟨k, ⟨⟨b1, b2, t1, t2, k, b3, n, cap, raw, sp, G, acts, 0, y1, raw2⟩, ⟨⟨w1, w2, hQ, hacts, zr1 _ _ _ hy1⟩, rfl⟩, ⟨rfl, rfl, rfl, rfl, rfl, rfl, rfl, rfl, trivial⟩, Ent.pick [0, 1, 2, 3, 21060, 4] rfl rfl⟩, ?_⟩⟩
    clear hy1 y1 zr1 zs1 zc1 hg hkn hn hnx hb p1 hrow hacts hQ w1 w2 raw2 b1 b2
    rintro ⟨b1, b2, t1, t2, k, b3, n, cap, raw, sp, G, acts, k2, r2, raw2⟩ js4 ⟨⟨w1, w2, hQ, hacts, hP2⟩, rfl⟩
    dsimp only at w1 w2 hQ hacts hP2 ⊢
    refine br_decide (fun hlt2 => ?_) (fun hge2 => ?_)
    · obtain ⟨b4, n2, cap2, sp2, rfl, hQ2⟩ := rw_enter hP2 (by omega)
      refine ⟨(k, n2, k2), ⟨⟨b1, b2, t1, t2, k, b3, n, cap, raw, sp, G, acts, k2, b4, n2, cap2, raw2, sp2⟩, ⟨⟨w1, w2, hQ, hacts, hQ2⟩, rfl⟩, ⟨rfl, rfl, rfl, rfl, rfl, rfl, rfl, rfl, rfl, trivial⟩, Ent.pick [0, 1, 2, 3, 4, 5] rfl rfl⟩, ?_⟩
      clear hP2 hlt2 hQ2 hacts hQ w1 w2
      rintro ⟨b1, b2, t1, t2, k', b3, n, cap, raw, sp, G, acts, k2', b4, n2', cap2, raw2, sp2⟩ js5 ⟨⟨w1, w2, hQ, hacts, hQ2⟩, hgh⟩
      simp only [Prod.mk.injEq] at hgh
      obtain ⟨rfl, rfl, rfl⟩ := hgh
      dsimp only at w1 w2 hQ hacts hQ2 ⊢
      obtain ⟨row, act, hrow, hact, ⟨vc, vb, vp, rfl, p1, p2, p3⟩, hb⟩ := rw_row hQ2
      obtain ⟨z1, rfl, zc1, zs1, zr1⟩ := SlIn.cl p1 str1
      obtain ⟨z2, rfl, zc2, zs2, zr2⟩ := SlIn.cl p2 int1
      obtain ⟨z3, rfl, zc3, zs3, zr3⟩ := SlIn.cl p3 par1
      have hg := fun ws hw j u hu => sets_get (sp := sp2) ws hQ2.2.2.2.2.2.wid hrow hw j u hu
      have hkn := hQ2.2.2.2.1
      have hn := hQ2.2.2.1
      have hnx := hQ2.2.2.2.2.1
      rw [e0]
      refine ⟨rfl, ⟨by omega, by omega⟩, _, _, _, Look.cells (hg [] (by simp) 14 _ rfl), clnZ_ok, rfl, z1, rfl, rfl, zc1, zs1.sub (sub_rest 0 (by simp) rfl), fun y1 hy1 => ?_⟩
      refine ⟨⟨by omega, by omega⟩, _, _, _, Look.cells (hg [] (by simp) 15 _ rfl), clnI_ok, rfl, z2, rfl, rfl, zc2, zs2.sub (sub_rest 0 (by simp) rfl), fun y2 hy2 => ?_⟩
      refine ⟨⟨by omega, by omega⟩, _, Look.cells (hg [] (by simp) 16 _ rfl), _, _, _, Look.cells (hg [] (by simp) 17 _ rfl), _, Look.cells (hg [] (by simp) 18 _ rfl), ld_ok, rfl, ⟨_, ⟨z3.a, z3.n, z3.cap⟩, _, z3.ys⟩, rfl, rfl, zc3, zs3.sub (sub_rest 0 (by simp) rfl), fun y3 hy3 => ?_⟩
      refine ⟨⟨by omega, by omega⟩, ⟨⟨rfl, rfl⟩, by omega⟩, ⟨by omega, by omega⟩, ⟨⟨rfl, rfl⟩, by simp only [List.length_set]; omega⟩, ⟨by omega, by omega⟩, ⟨⟨rfl, rfl⟩, by simp only [List.length_set]; omega⟩, ⟨⟨rfl, rfl⟩, by simp only [List.length_set]; omega⟩, ⟨⟨rfl, rfl⟩, by simp only [List.length_set]; omega⟩, ⟨by omega, by omega⟩, ?_⟩
      have hG : SubO G (bagA [G, y1.A, y2.A, y3.A]) := subO_bag 0 rfl
      refine ⟨⟨b1, b2, t1, t2, k', b3, n, cap, raw, sp, bagA [G, y1.A, y2.A, y3.A], acts, k2' + 1, _, _⟩, ⟨⟨w1.mono hG fun _ _ h => h.mono hG, w2.mono hG fun _ _ h => h.mono hG, ⟨hQ.1, hQ.2.1, hQ.2.2.1, hQ.2.2.2.1, hQ.2.2.2.2.1, hQ.2.2.2.2.2.mono fun _ _ h => h.mono hG⟩, hacts, rw_step hQ2 hrow hact [(14, y1.v), (15, y2.v), (16, .int .i64 act.load.kind), (17, y3.v), (18, .string act.load.body)] (by simp) ?_ (fun _ _ h => h.mono hG) ?_ b4⟩, rfl⟩, ⟨rfl, rfl, rfl, rfl, rfl, rfl, rfl, rfl, trivial⟩, Ent.bag [0, 1, 2, 3, 4] [5, 25110, 25170, 25230] rfl rfl, by dsimp only; omega⟩
      · intro u hu
        simp only [wr1, List.foldl, List.set, Row.v, List.mem_cons, List.not_mem_nil, or_false] at hu
        rcases hu with rfl | rfl | rfl | rfl | rfl | rfl | rfl | rfl | rfl | rfl | rfl | rfl | rfl | rfl | rfl | rfl | rfl | rfl | rfl <;> rfl
      · exact ⟨y1.sl, y2.sl, y3.sl, rfl, zr1 _ _ hy1 _ (subO_bag 1 rfl), zr2 _ _ hy2 _ (subO_bag 2 rfl), zr3 _ _ hy3 _ (subO_bag 3 rfl)⟩
    · have wa := rw_end (P' := ActOw (bagA [G, r2.A])) hP2 (by omega) (G := bagA [G, r2.A]) (subO_bag 1 rfl) (fun _ _ h => h.mono (subO_bag 0 rfl))
      have hG : SubO G (bagA [G, r2.A]) := subO_bag 0 rfl
      obtain ⟨row, acts', hrow, hacts', ⟨va, rfl, p1⟩, hb⟩ := rw_row hQ
      rw [hacts] at hacts'
      cases hacts'
      have hkn := hQ.2.2.2.1
      have hn := hQ.2.2.1
      have hnx := hQ.2.2.2.2.1
      rw [e0]
      refine ⟨⟨rfl, rfl⟩, ⟨by omega, by omega⟩, ⟨⟨rfl, rfl⟩, by omega⟩, ⟨by omega, by omega⟩, ⟨b1, b2, t1, t2, sl0, sl0, k + 1, _, _, bagA [G, r2.A]⟩, ⟨w1.mono hG fun _ _ h => h.mono hG, w2.mono hG fun _ _ h => h.mono hG, rw_step hQ hrow hacts [(0, r2.v)] (by simp) ?_ (fun _ _ h => h.mono hG) ?_ b3⟩, ⟨rfl, rfl, rfl, rfl, trivial⟩, Ent.bag [0, 1, 2, 3] [5, 4] rfl rfl, by dsimp only; omega⟩
      · intro u hu
        simp only [wr1, List.foldl, List.set, Row.v, List.mem_cons, List.not_mem_nil, or_false] at hu
        rcases hu with rfl; rfl
      · exact ⟨r2.sl, rfl, wa⟩
  have w3 := rw_end (P' := BlkOw (bagA [G, r.A])) hP (by omega) (G := bagA [G, r.A]) (subO_bag 1 rfl) (fun _ _ h => h.mono (subO_bag 0 rfl))
  refine ⟨⟨rfl, rfl⟩, clnD_ok, rfl, z4, ?_, rfl, c4, s4.sub (sub_rest 0 (by simp) rfl), fun y4 hy4 => ⟨⟨rfl, rfl⟩, ⟨rfl, rfl⟩, clnV_ok, rfl, ⟨_, _, _, raw5.flatten⟩, rfl, rfl, c5, s5.sub (sub_rest 0 (by simp) rfl), fun y hy => ?_⟩⟩
  · rw [e4]
  have hG : SubO G (bagA [G, r.A, y4.A]) := subO_bag 0 rfl
  have hG2 : SubO (bagA [G, r.A]) (bagA [G, r.A, y4.A]) := subO_pre [G, r.A] [y4.A]
  refine ⟨⟨rfl, rfl⟩, ⟨rfl, rfl⟩, ⟨⟨b1, b2, t1, t2, r.sl, y4.sl, 0, y, raw5, bagA [G, r.A, y4.A]⟩, ⟨w1.mono hG fun _ _ h => h.mono hG, w2.mono hG fun _ _ h => h.mono hG, w3.mono hG2 fun _ _ h => h.mono hG2, g4 _ _ hy4 _ (subO_bag 2 rfl), g5 _ _ y hy⟩, ⟨rfl, rfl, rfl, rfl, trivial⟩, Ent.bag [0, 1, 2, 30020] [4, 3, 29020] rfl rfl⟩, ?_⟩
  clear w1 w2 w3 hG hG2 hy y b1 b2 g5 c5 s5 hP hge r raw G k y4 hy4 g4
  rintro ⟨b1, b2, t1, t2, t3, t4, k, r, raw, G⟩ js4 ⟨w1, w2, w3, w4, hP⟩
  dsimp only at w1 w2 w3 w4 hP ⊢
  refine br_decide (fun hlt => ?_) (fun hge => ?_)
  · obtain ⟨b3, n, cap, sp, rfl, hQ⟩ := rw_enter hP (by omega)
    refine ⟨k, ⟨⟨b1, b2, t1, t2, t3, t4, k, b3, n, cap, raw, sp, G⟩, ⟨⟨w1, w2, w3, w4, hQ⟩, rfl⟩, ⟨rfl, rfl, rfl, rfl, rfl, trivial⟩, Ent.pick [0, 1, 2, 3, 4] rfl rfl⟩, ?_⟩
    clear hP hlt hQ w1 w2 w3 w4
    rintro ⟨b1, b2, t1, t2, t3, t4, k, b3, n, cap, raw, sp, G⟩ js ⟨⟨w1, w2, w3, w4, hQ⟩, rfl⟩
    dsimp only at w1 w2 w3 w4 hQ ⊢
    obtain ⟨row, iv, hrow, hiv, ⟨vp, rfl, p1⟩, hb⟩ := rw_row hQ
    obtain ⟨z1, rfl, zc1, zs1, zr1⟩ := SlIn.cl p1 par1
    have hg := fun ws hw j u hu => sets_get (sp := sp) ws hQ.2.2.2.2.2.wid hrow hw j u hu
    have hkn := hQ.2.2.2.1
    have hn := hQ.2.2.1
    have hnx := hQ.2.2.2.2.1
    rw [e0]
    refine ⟨rfl, ⟨rfl, rfl⟩, ⟨rfl, rfl⟩, ⟨by omega, by omega⟩, _, Look.cells (hg [] (by simp) 4 _ rfl), _, _, _, Look.cells (hg [] (by simp) 5 _ rfl), _, Look.cells (hg [] (by simp) 6 _ rfl), ld_ok, rfl, ⟨_, ⟨z1.a, z1.n, z1.cap⟩, _, z1.ys⟩, rfl, rfl, zc1, zs1.sub (sub_rest 0 (by simp) rfl), fun y1 hy1 => ?_⟩
    refine ⟨⟨by omega, by omega⟩, ⟨⟨rfl, rfl⟩, by omega⟩, ⟨⟨rfl, rfl⟩, by simp only [List.length_set]; omega⟩, ⟨⟨rfl, rfl⟩, by simp only [List.length_set]; omega⟩, ⟨by omega, by omega⟩, ?_⟩
    have hG : SubO G (bagA [G, y1.A]) := subO_bag 0 rfl
    refine ⟨⟨b1, b2, t1, t2, t3, t4, k + 1, _, _, bagA [G, y1.A]⟩, ⟨w1.mono hG fun _ _ h => h.mono hG, w2.mono hG fun _ _ h => h.mono hG, w3.mono hG fun _ _ h => h.mono hG, w4.mono hG fun _ _ h => h, rw_step hQ hrow hiv [(4, .int .i64 iv.load.kind), (5, y1.v), (6, .string iv.load.body)] (by simp) ?_ (fun _ _ h => h.mono hG) ?_ b3⟩, ⟨rfl, rfl, rfl, rfl, trivial⟩, Ent.bag [0, 1, 2, 3] [4, 34090] rfl rfl, by dsimp only; omega⟩
    · intro u hu
      simp only [wr1, List.foldl, List.set, Row.v, List.mem_cons, List.not_mem_nil, or_false] at hu
      rcases hu with rfl | rfl | rfl | rfl | rfl | rfl | rfl | rfl <;> rfl
    · exact ⟨y1.sl, rfl, zr1 _ _ hy1 _ (subO_bag 1 rfl)⟩
  · have w5 := rw_end (P' := InvOw (bagA [G, r.A])) hP (by omega) (G := bagA [G, r.A]) (subO_bag 1 rfl) (fun _ _ h => h.mono (subO_bag 0 rfl))
    have hG : SubO G (bagA [G, r.A]) := subO_bag 0 rfl
    refine ⟨⟨rfl, rfl⟩, ⟨rfl, rfl⟩, ⟨rfl, rfl⟩, ⟨rfl, rfl⟩, ⟨rfl, rfl⟩, ⟨rfl, rfl⟩, ⟨rfl, rfl⟩, ⟨rfl, rfl⟩, ⟨rfl, rfl⟩, ⟨rfl, rfl⟩, ⟨rfl, rfl⟩, ⟨rfl, rfl⟩, ⟨rfl, rfl⟩, ⟨rfl, rfl⟩, ⟨rfl, rfl⟩, ⟨rfl, rfl⟩, ⟨rfl, rfl⟩, ⟨rfl, rfl⟩, ⟨rfl, rfl⟩, ⟨rfl, rfl⟩, ⟨rfl, rfl⟩, ⟨rfl, rfl⟩, ⟨rfl, rfl⟩, ⟨rfl, rfl⟩, ⟨bagA [G, r.A], ⟨t1, t2, t3, t4, r.sl⟩⟩, ⟨w1.mono hG fun _ _ h => h.mono hG, w2.mono hG fun _ _ h => h.mono hG, w3.mono hG fun _ _ h => h.mono hG, w4.mono hG fun _ _ h => h, w5⟩, rfl, (Ent.bag (S' := ofL [F, bagA [G, r.A]]) [0] [4, 3] rfl rfl).trans (Ent.pick [1, 0] rfl rfl)⟩
set_option maxRecDepth 100000 in
theorem clone_ok : FnOk Try.prog 36 cloneC :=
  fnOk (N := 204) (by kernel_rfl) Try.func36 rfl (by kernel_rfl) (fun _ => Nat.le_of_ble_eq_true rfl) clone_H (at8 2) fun x F hc hr => Eq.mpr (by kernel_rfl) (clone_vc x F hc hr)
end Go.Proofs.Ytkmdgnbfojkcnaa
