/- Spoiling an owned chart: its rows are a heap that keeps its shape. -/
import Derived.Test.YtfmadkaiigiaiaaLatCB
set_option linter.all false
namespace Go.Proofs.Ytfmadkaiigiaiaa
open Go
def tyId : Ty → TypeId
  | .int => 3
  | .str => 9
  | .par => 105
  | .st => 61
  | .tr => 74
  | .blk => 83
  | .act => 86
  | .dat => 88
  | .inv => 91
theorem tyId_inj {t t' : Ty} (h : tyId t = tyId t') : t = t' := by
  cases t <;> cases t' <;> first | rfl | (exfalso; revert h; decide)
/-- A slice whose rows are of one kind, owned. -/
def OwT (G : Atom) : Ty → Sl → Prop
  | .int, s => ∃ xs, IntsOw G s xs
  | .str, s => ∃ xs, StrsOw G s xs
  | .par, s => ∃ xs, ParsOw G s xs
  | .st, s => ∃ xs, SlOw G 61 13 232 (StOw G) s xs
  | .tr, s => ∃ xs, SlOw G 74 6 88 (TrOw G) s xs
  | .blk, s => ∃ xs, SlOw G 83 1 24 (BlkOw G) s xs
  | .act, s => ∃ xs, SlOw G 86 19 304 (ActOw G) s xs
  | .dat, s => ∃ xs, SlOw G 88 3 48 DatIn s xs
  | .inv, s => ∃ xs, SlOw G 91 8 104 (InvOw G) s xs
def WVo (G : Atom) : CK → Value → Prop
  | .i, v => ∃ n, v = .int .i64 n
  | .s, v => ∃ x, v = .string x
  | .b, v => ∃ x, v = .bool x
  | .sl t, v => ∃ s : Sl, v = .slice s.a s.n s.cap ∧ OwT G t s
structure RowT (G : Atom) (t : Ty) (s : Sl) (r : Row) (raw : List (List Value)) : Prop where
  sl : s = r.sl
  row : IsRow (tyId t) t.len raw.flatten r
  sub : SubO r.A G
  le : r.n ≤ 140737488351232
  len : raw.length = r.n
  wid : ∀ w ∈ raw, w.length = t.len
  el : ∀ w ∈ raw, All2 (WVo G) t.ks w
theorem rowT_of {α : Type} {G : Atom} {t : Ty} {R : List Value → α → Prop} {Bw : Nat} {s : Sl} {xs : List α} (h : SlOw G (tyId t) t.len Bw R s xs) (hB : 1 ≤ Bw) (hR : ∀ w x, R w x → All2 (WVo G) t.ks w) : ∃ r raw, RowT G t s r raw := by
  obtain ⟨r, raw, h1, h2, h3, h4, h5, h6, h7⟩ := h
  exact ⟨r, raw, h1, h2, h3, Nat.le_trans (Nat.le_mul_of_pos_right _ hB) h4, h5, h6, fun w hw => by obtain ⟨x, hx⟩ := All2.mem h7 w hw; exact hR w x hx⟩
theorem owT_row {G : Atom} {t : Ty} {s : Sl} (h : OwT G t s) : ∃ r raw, RowT G t s r raw := by
  cases t with
  | int =>
    obtain ⟨xs, h⟩ := h
    exact rowT_of (t := .int) h (by decide) fun w x e => by
      obtain rfl : w = _ := e
      exact all2c ⟨_, rfl⟩ all2n
  | str =>
    obtain ⟨xs, h⟩ := h
    exact rowT_of (t := .str) h (by decide) fun w x e => by
      obtain rfl : w = _ := e
      exact all2c ⟨_, rfl⟩ all2n
  | par =>
    obtain ⟨xs, h⟩ := h
    exact rowT_of (t := .par) h (by decide) fun w x e => by
      obtain rfl : w = _ := e
      exact all2c ⟨_, rfl⟩ (all2c ⟨_, rfl⟩ all2n)
  | st =>
    obtain ⟨xs, h⟩ := h
    exact rowT_of (t := .st) h (by decide) fun w x e => by
      obtain ⟨vk, ve, vx, vt, vd, vi, vp, rfl, h1, h2, h3, h4, h5, h6, h7⟩ := e
      exact all2c ⟨_, rfl⟩ (all2c ⟨_, rfl⟩ (all2c ⟨_, rfl⟩ (all2c ⟨vk, rfl, _, h1⟩ (all2c ⟨_, rfl⟩ (all2c ⟨ve, rfl, _, h2⟩ (all2c ⟨vx, rfl, _, h3⟩ (all2c ⟨vt, rfl, _, h4⟩ (all2c ⟨vd, rfl, _, h5⟩ (all2c ⟨vi, rfl, _, h6⟩ (all2c ⟨_, rfl⟩ (all2c ⟨vp, rfl, _, h7⟩ (all2c ⟨_, rfl⟩ all2n))))))))))))
  | tr =>
    obtain ⟨xs, h⟩ := h
    exact rowT_of (t := .tr) h (by decide) fun w x e => by
      obtain ⟨ve, vt, rfl, h1, h2⟩ := e
      exact all2c ⟨_, rfl⟩ (all2c ⟨ve, rfl, _, h1⟩ (all2c ⟨_, rfl⟩ (all2c ⟨vt, rfl, _, h2⟩ (all2c ⟨_, rfl⟩ (all2c ⟨_, rfl⟩ all2n)))))
  | blk =>
    obtain ⟨xs, h⟩ := h
    exact rowT_of (t := .blk) h (by decide) fun w x e => by
      obtain ⟨s, rfl, h1⟩ := e
      exact all2c ⟨s, rfl, _, h1⟩ all2n
  | act =>
    obtain ⟨xs, h⟩ := h
    exact rowT_of (t := .act) h (by decide) fun w x e => by
      obtain ⟨vc, vb, vp, rfl, h1, h2, h3⟩ := e
      exact all2c ⟨_, rfl⟩ (all2c ⟨_, rfl⟩ (all2c ⟨_, rfl⟩ (all2c ⟨_, rfl⟩ (all2c ⟨_, rfl⟩ (all2c ⟨_, rfl⟩ (all2c ⟨_, rfl⟩ (all2c ⟨_, rfl⟩ (all2c ⟨_, rfl⟩ (all2c ⟨_, rfl⟩ (all2c ⟨_, rfl⟩ (all2c ⟨_, rfl⟩ (all2c ⟨_, rfl⟩ (all2c ⟨_, rfl⟩ (all2c ⟨vc, rfl, _, h1⟩ (all2c ⟨vb, rfl, _, h2⟩ (all2c ⟨_, rfl⟩ (all2c ⟨vp, rfl, _, h3⟩ (all2c ⟨_, rfl⟩ all2n))))))))))))))))))
  | dat =>
    obtain ⟨xs, h⟩ := h
    exact rowT_of (t := .dat) h (by decide) fun w x e => by
      obtain rfl : w = _ := e
      exact all2c ⟨_, rfl⟩ (all2c ⟨_, rfl⟩ (all2c ⟨_, rfl⟩ all2n))
  | inv =>
    obtain ⟨xs, h⟩ := h
    exact rowT_of (t := .inv) h (by decide) fun w x e => by
      obtain ⟨vp, rfl, h1⟩ := e
      exact all2c ⟨_, rfl⟩ (all2c ⟨_, rfl⟩ (all2c ⟨_, rfl⟩ (all2c ⟨_, rfl⟩ (all2c ⟨_, rfl⟩ (all2c ⟨vp, rfl, _, h1⟩ (all2c ⟨_, rfl⟩ (all2c ⟨_, rfl⟩ all2n)))))))
def Adm (G : Atom) (b : Nat) (t : Ty) (n : Nat) : Prop := ∃ s, OwT G t s ∧ s.a = some ⟨b, 0, none⟩ ∧ s.n = n
theorem adm_heap {G : Atom} {I : Imm} {h : Hp} {o : Own} (hG : G.holds I h o) {b : Nat} {t : Ty} {n : Nat} (ha : Adm G b t n) : n ≤ 140737488351232 ∧ o b ∧ ∃ (raw : List (List Value)) (sp : List Value), h b = some (.cells ⟨raw.flatten ++ sp⟩ (tyId t) (0, 0)) ∧ raw.length = n ∧ (∀ w ∈ raw, w.length = t.len) ∧ ∀ w ∈ raw, All2 (WVo G) t.ks w := by
  obtain ⟨s, h1, h2, rfl⟩ := ha
  obtain ⟨r, raw, ⟨rfl, h4, h5, h6, h7, h8, h9⟩⟩ := owT_row h1
  refine ⟨h6, ?_⟩
  cases h4 with
  | nil e => cases h2
  | blk b' n cap sp hl hs hn =>
    simp only [Row.sl, Option.some.injEq, Addr.mk.injEq, and_true] at h2
    subst h2
    obtain ⟨o', k1, k2⟩ := h5 I h o hG
    exact ⟨k2 _ k1.1, raw, sp, k1.2, h7, h8, h9⟩
theorem has_max (P : Nat → Prop) : ∀ B : Nat, (∀ n, P n → n ≤ B) → (∃ n, P n) → ∃ n, P n ∧ ∀ m, P m → m ≤ n
  | 0, h, ⟨n, hn⟩ => ⟨n, hn, fun m hm => by have := h m hm; omega⟩
  | B + 1, h, hex => by
    by_cases hp : P (B + 1)
    · exact ⟨B + 1, hp, h⟩
    · refine has_max P B (fun n hn => ?_) hex
      have := h n hn
      by_cases e : n = B + 1
      · subst e; exact absurd hn hp
      · omega
def Top (G : Atom) (b : Nat) (p : Ty × Nat) : Prop := Adm G b p.1 p.2 ∧ ∀ m, Adm G b p.1 m → m ≤ p.2
open Classical in
noncomputable def sigOf (G : Atom) : Sig := fun b => if h : ∃ p, Top G b p then some h.choose else none
theorem sig_top {G : Atom} {b : Nat} {p : Ty × Nat} (h : sigOf G b = some p) : Top G b p := by
  unfold sigOf at h
  split at h
  · next hex =>
    cases h
    exact hex.choose_spec
  · cases h
theorem sig_adm {G : Atom} {I : Imm} {h : Hp} {o : Own} (hG : G.holds I h o) {b : Nat} {t : Ty} {n : Nat} (ha : Adm G b t n) : ∃ m, sigOf G b = some (t, m) ∧ n ≤ m := by
  obtain ⟨m, hm1, hm2⟩ := has_max (fun n => Adm G b t n) 140737488351232 (fun n hn => (adm_heap hG hn).1) ⟨n, ha⟩
  have hex : ∃ p, Top G b p := ⟨(t, m), hm1, hm2⟩
  obtain ⟨⟨t', m'⟩, hp⟩ : ∃ p, sigOf G b = some p := ⟨hex.choose, by unfold sigOf; rw [dif_pos hex]⟩
  have ht := sig_top hp
  obtain ⟨-, -, raw, sp, e1, -⟩ := adm_heap hG ht.1
  obtain ⟨-, -, raw2, sp2, e2, -⟩ := adm_heap hG ha
  rw [e1] at e2
  simp only [Option.some.injEq, Obj.cells.injEq] at e2
  obtain rfl := tyId_inj e2.2.1
  exact ⟨m', hp, ht.2 n ha⟩
theorem slT_of {G : Atom} {I : Imm} {h : Hp} {o : Own} (hG : G.holds I h o) {t : Ty} {s : Sl} (hs : OwT G t s) : SlT (sigOf G) t s := by
  obtain ⟨r, raw, ⟨rfl, h4, h5, h6, h7, h8, h9⟩⟩ := owT_row hs
  refine ⟨h6, fun h0 => ?_⟩
  cases h4 with
  | nil e => exact absurd h0 (Nat.lt_irrefl 0)
  | blk b n cap sp hl hsz hn =>
    obtain ⟨m, k1, k2⟩ := sig_adm hG ⟨_, hs, rfl, rfl⟩
    exact ⟨b, m, rfl, k1, k2⟩
theorem wv_of {G : Atom} {I : Imm} {h : Hp} {o : Own} (hG : G.holds I h o) {k : CK} {v : Value} (hv : WVo G k v) : WV (sigOf G) k v := by
  cases k with
  | i => exact hv
  | s => exact hv
  | b => exact hv
  | sl t =>
    obtain ⟨s, e, h1⟩ := hv
    exact ⟨s, e, slT_of hG h1⟩
theorem wa_of {G : Atom} {I : Imm} {h : Hp} {o : Own} (hG : G.holds I h o) : (WA (sigOf G) none).holds I h o := by
  refine ⟨fun b t n e => ?_, fun _ _ _ e => nomatch e⟩
  obtain ⟨-, h2, raw, sp, h3, h4, h5, h6⟩ := adm_heap hG (sig_top e).1
  refine ⟨h2, _, _, h3, ?_, fun i j k hi hk => ?_⟩
  · have h4 : raw.length = n := h4
    have h5 : ∀ w ∈ raw, w.length = t.len := h5
    rw [List.length_append, flatten_len h5, h4]; omega
  · have hi' : i < raw.length := by rw [h4]; exact hi
    have hw : raw[i]? = some raw[i] := List.getElem?_eq_getElem hi'
    have hm : raw[i] ∈ raw := List.getElem_mem hi'
    obtain ⟨g1, g2⟩ := all2_get (h6 _ hm)
    have hj : j < raw[i].length := by rw [← g1]; exact (List.getElem?_eq_some_iff.1 hk).1
    have hv : raw[i][j]? = some raw[i][j] := List.getElem?_eq_getElem hj
    have hfl := flatten_get h5 i j _ _ hw hv
    exact ⟨raw[i][j], by rw [List.getElem?_append_left (List.getElem?_eq_some_iff.1 hfl).1]; exact hfl, wv_of hG (g2 j k _ hk hv)⟩
structure SpoX where
  G : Atom
  c : ChD
  w : ChS
def spoC : Con where
  X := SpoX
  Y := Sig × Kn
  args x := [.agg #[.string x.c.name, .bool x.c.late, .int .i64 x.c.script, .slice x.w.vs.a x.w.vs.n x.w.vs.cap, .slice x.w.vt.a x.w.vt.n x.w.vt.cap, .slice x.w.vb.a x.w.vb.n x.w.vb.cap, .slice x.w.vd.a x.w.vd.n x.w.vd.cap, .slice x.w.vi.a x.w.vi.n x.w.vi.cap]]
  pre x := [x.G]
  cond x := ChOw x.G x.w x.c
  rdc _ _ := True
  rel _ _ := True
  val _ _ := .returned (.tuple #[])
  post _ y := [WA y.1 y.2]
theorem spo_ok : FnOk Try.prog 34 spoC := by
  refine ⟨fun x F I w hc hr hs => ?_⟩
  obtain ⟨G, c, cw⟩ := x
  obtain ⟨h1, h2, h3, h4, h5⟩ := hc
  obtain ⟨f, g1, g2, g3⟩ := hs.own
  have hG : G.holds I (hp w) (f 0) := g1 0
  have hs2 : Sat I (ofL [WA (sigOf G) none, F]) w := by
    refine ⟨⟨f, fun j => ?_, g2, g3⟩, hs.imm⟩
    match j with
    | 0 => exact wa_of hG
    | 1 => exact g1 1
    | j + 2 => exact g1 (j + 2)
  refine (sp_ok.h ⟨sigOf G, c, cw⟩ F I w ⟨slT_of hG ⟨_, h1⟩, slT_of hG ⟨_, h2⟩, slT_of hG ⟨_, h3⟩, slT_of hG ⟨_, h4⟩, slT_of hG ⟨_, h5⟩⟩ trivial hs2).mono ?_
  rintro e w' ⟨D, J, -, rfl, k3, k4, k5⟩
  exact ⟨(sigOf G, D), J, trivial, rfl, k3, k4, k5⟩
end Go.Proofs.Ytfmadkaiigiaiaa
