/- Chart; a lattice of a chart that is right, or not. -/
import Derived.Test.YtkmdgnbfojkcnaaLatL
set_option linter.all false
namespace Go.Proofs.Ytkmdgnbfojkcnaa
open Go
set_option maxHeartbeats 1000000
theorem SlIn.sl {α : Type} {F : Atom} {R : List Value → α → Prop} {k Bw : Nat} {v : Value} {xs : List α} (h : SlIn F R k Bw v xs) : ∃ s : Sl, v = .slice s.a s.n s.cap := by
  obtain ⟨a, n, cap, raw, rfl, -⟩ := h
  exact ⟨⟨a, n, cap⟩, rfl⟩
theorem ChIn.chs {F : Atom} {v : ChV} {c : ChD} (h : ChIn F v c) : ∃ w : ChS, v = w.v := by
  obtain ⟨s1, h1⟩ := h.sts.sl
  obtain ⟨s2, h2⟩ := h.trs.sl
  obtain ⟨s3, h3⟩ := h.blks.sl
  obtain ⟨s4, h4⟩ := h.data.sl
  obtain ⟨s5, h5⟩ := h.invs.sl
  obtain ⟨v1, v2, v3, v4, v5⟩ := v
  dsimp only at h1 h2 h3 h4 h5
  subst h1 h2 h3 h4 h5
  exact ⟨⟨s1, s2, s3, s4, s5⟩, rfl⟩
theorem LatIn.chs {F : Atom} {b : Nat} {c : ChD} (h : LatIn F b c) : ∃ w : ChS, (∀ j u, (chS c w)[j]? = some u → Look F ⟨b, j, none⟩ u) ∧ ChIn F w.v c := by
  obtain ⟨v, h1, h2⟩ := h.ch
  obtain ⟨w, rfl⟩ := h2.chs
  exact ⟨w, h1, h2⟩
structure ChtX where
  b : Nat
  c : ChD
  w : ChS
def chtC : Con where
  X := ChtX
  Y := Unit
  args x := [.pointer (some ⟨x.b, 0, none⟩)]
  pre _ := []
  cond _ := True
  rdc x F := ∀ j u, (chS x.c x.w)[j]? = some u → Look F ⟨x.b, j, none⟩ u
  rel _ _ := True
  val x _ := .returned (.agg #[.string x.c.name, .bool x.c.late, .int .i64 x.c.script, .slice x.w.vs.a x.w.vs.n x.w.vs.cap, .slice x.w.vt.a x.w.vt.n x.w.vt.cap, .slice x.w.vb.a x.w.vb.n x.w.vb.cap, .slice x.w.vd.a x.w.vd.n x.w.vd.cap, .slice x.w.vi.a x.w.vi.n x.w.vi.cap])
  post _ _ := []
  rmono _ _ _ h hk := fun j u hj => (hk j u hj).sub h
def sh8 : List LH := [.ex 0 .str, .ex 0 .bool, .ex 0 (.int .i64), .ex 0 .slice, .ex 0 .slice, .ex 0 .slice, .ex 0 .slice, .ex 0 .slice]
def chtOv (_x : ChtX) (_F : Atom) : List (Nat × Nat × OH) := [(0, 0, .n 1000), (1, 3, .q sh8), (1, 4, .w (at8 1000))]
noncomputable def cht_H (x : Con.X chtC) (F : Atom) : Hints where
  op := hk ((chtOv x F) ++ [])
  inv := (fun _ _ _ => none) x F
  cut := (fun _ _ _ => none) x F
  ord := (fun _ => [])
open Go.Value (int slice string bool pointer agg tuple func) in
open Go.IntKind (i64) in
set_option maxRecDepth 100000 in
theorem cht_vc (x : ChtX) (F : Atom) (hc : Con.cond chtC x) (hr : Con.rdc chtC x F) :
  ∀ (b : Nat),
 ∃ (s : ByteArray),
 Look F ⟨x.b, 0, none⟩ (string s) ∧
 ∃ (b_1 : Bool),
 Look F ⟨x.b, 1, none⟩ (bool b_1) ∧
 ∃ (n : Int),
 Look F ⟨x.b, 2, none⟩ (int i64 n) ∧
 ∃ (a : Option Addr),
 ∃ (l : Nat),
 ∃ (c : Nat),
 Look F ⟨x.b, 3, none⟩ (slice a l c) ∧
 ∃ (a_1 : Option Addr),
 ∃ (l_1 : Nat),
 ∃ (c_1 : Nat),
 Look F ⟨x.b, 4, none⟩ (slice a_1 l_1 c_1) ∧
 ∃ (a_2 : Option Addr),
 ∃ (l_2 : Nat),
 ∃ (c_2 : Nat),
 Look F ⟨x.b, 5, none⟩ (slice a_2 l_2 c_2) ∧
 ∃ (a_3 : Option Addr),
 ∃ (l_3 : Nat),
 ∃ (c_3 : Nat),
 Look F ⟨x.b, 6, none⟩ (slice a_3 l_3 c_3) ∧
 ∃ (a_4 : Option Addr),
 ∃ (l_4 : Nat),
 ∃ (c_4 : Nat),
 Look F ⟨x.b, 7, none⟩ (slice a_4 l_4 c_4) ∧
 Same ⟨b, 0, none⟩ b ∧
 Same ⟨b, 1, none⟩ b ∧
 Same ⟨b, 2, none⟩ b ∧
 Same ⟨b, 3, none⟩ b ∧
 Same ⟨b, 4, none⟩ b ∧
 Same ⟨b, 5, none⟩ b ∧ Same ⟨b, 6, none⟩ b ∧ Same ⟨b, 7, none⟩ b ∧ Same ⟨b, 0, none⟩ b ∧ Same ⟨b, 1, none⟩ b ∧ Same ⟨b, 2, none⟩ b ∧ Same ⟨b, 3, none⟩ b ∧ Same ⟨b, 4, none⟩ b ∧ Same ⟨b, 5, none⟩ b ∧ Same ⟨b, 6, none⟩ b ∧ Same ⟨b, 7, none⟩ b ∧ Done chtC x F (Ending.returned (agg { toList := [string s, bool b_1, int i64 n, slice a l c, slice a_1 l_1 c_1, slice a_2 l_2 c_2, slice a_3 l_3 c_3, slice a_4 l_4 c_4] })) [(0, F), (1000, Atom.cells b [string s, bool b_1, int i64 n, slice a l c, slice a_1 l_1 c_1, slice a_2 l_2 c_2, slice a_3 l_3 c_3, slice a_4 l_4 c_4] 28)] := by
  obtain ⟨b, c, w⟩ := x
  replace hr : ∀ j u, (chS c w)[j]? = some u → Look F ⟨b, j, none⟩ u := hr
  intro b1
  refine ⟨_, hr 0 _ rfl, _, hr 1 _ rfl, _, hr 2 _ rfl, _, _, _, hr 3 _ rfl, _, _, _, hr 4 _ rfl, _, _, _, hr 5 _ rfl, _, _, _, hr 6 _ rfl, _, _, _, hr 7 _ rfl, ?_⟩
  iterate 16 refine ⟨⟨rfl, rfl⟩, ?_⟩
  exact ⟨(), trivial, rfl, Ent.pick [0] rfl rfl⟩
set_option maxRecDepth 100000 in
theorem cht_ok : FnOk Try.prog 17 chtC :=
  fnOk (N := 7) (by kernel_rfl) Try.func17 rfl (by kernel_rfl) (fun _ => Nat.le_of_ble_eq_true rfl) cht_H (at8 1000) fun x F hc hr => Eq.mpr (by kernel_rfl) (cht_vc x F hc hr)
def ld0 : LoadD := ⟨0, [], .empty⟩
def smallC (d : ChD) : Con where
  X := Unit
  Y := ClnCY
  args _ := []
  pre _ := []
  cond _ := True
  rdc _ _ := True
  rel _ y := ChIn y.G y.w.v d
  val _ y := .returned (.agg #[.string d.name, .bool d.late, .int .i64 d.script, .slice y.w.vs.a y.w.vs.n y.w.vs.cap, .slice y.w.vt.a y.w.vt.n y.w.vt.cap, .slice y.w.vb.a y.w.vb.n y.w.vb.cap, .slice y.w.vd.a y.w.vd.n y.w.vd.cap, .slice y.w.vi.a y.w.vi.n y.w.vi.cap])
  post _ y := [y.G]
theorem lit_srcd {S : St} {touch : List Nat} (j : Nat) (hj : j ∉ touch) {b : Nat} {xs : List Int} {t : TypeId} (e : gt S j = .cells b (ints xs) t) : Srcd (.pred (rest S touch)) (some ⟨b, 0, none⟩) (ints xs) := fun ad h => by
  cases h
  refine Seg.rest hj ?_
  rw [e]
  exact Seg.cells fun j u h => by rw [Nat.zero_add]; exact h
theorem lit_in {α : Type} {G : Atom} {b k Bw : Nat} {t : TypeId} {raw : List (List Value)} {xs : List α} {R : List Value → α → Prop} (hk : ∀ r ∈ raw, r.length = k) (hs : Sub (.cells b raw.flatten t) G) (hn : raw.length * Bw ≤ 140737488351232) (h : All2 R raw xs) : SlIn G R k Bw (.slice (some ⟨b, 0, none⟩) raw.length raw.length) xs :=
  SlIn.of (.blk b 0 _ (flatten_len hk)) (fun ad e => by cases e; exact Seg.sub hs (Seg.cells fun j u h => by rw [Nat.zero_add]; exact h)) (fun e => by cases e) (Nat.le_refl _) hn rfl hk h
def newYC : Con where
  X := ClnCX
  Y := NewY
  args x := [.agg #[.string x.c.name, .bool x.c.late, .int .i64 x.c.script, .slice x.w.vs.a x.w.vs.n x.w.vs.cap, .slice x.w.vt.a x.w.vt.n x.w.vt.cap, .slice x.w.vb.a x.w.vb.n x.w.vb.cap, .slice x.w.vd.a x.w.vd.n x.w.vd.cap, .slice x.w.vi.a x.w.vi.n x.w.vi.cap]]
  pre _ := []
  cond x := newB x.c = true
  rdc x F := ChIn F x.w.v x.c
  rel x y := LatIn y.G y.b x.c
  val x y := .returned (.tuple #[.pointer (some ⟨y.b, 0, none⟩), .int .i64 0])
  post x y := [y.G]
  rmono _ _ _ h hk := hk.sub h
def newNC : Con where
  X := ClnCX
  Y := Unit
  args x := [.agg #[.string x.c.name, .bool x.c.late, .int .i64 x.c.script, .slice x.w.vs.a x.w.vs.n x.w.vs.cap, .slice x.w.vt.a x.w.vt.n x.w.vt.cap, .slice x.w.vb.a x.w.vb.n x.w.vb.cap, .slice x.w.vd.a x.w.vd.n x.w.vd.cap, .slice x.w.vi.a x.w.vi.n x.w.vi.cap]]
  pre _ := []
  cond x := newB x.c = false
  rdc x F := ChIn F x.w.v x.c
  rel x y := True
  val x y := .returned (.tuple #[.pointer none, .int .i64 140])
  post x y := []
  rmono _ _ _ h hk := hk.sub h
theorem newY_ok : FnOk Try.prog 14 newYC := new_ok.conseq fun x F I w hc hr hs => by
  replace hc : newB x.c = true := hc
  refine ⟨x, I, Imm.le_refl I, trivial, hr, rfl, hs, fun y hy => ⟨y, hy hc, ?_, ?_⟩⟩
  · dsimp only [newC, newYC]; rw [hc]; rfl
  · dsimp only [newC, newYC]; rw [hc]; exact Ent.refl _
theorem newN_ok : FnOk Try.prog 14 newNC := new_ok.conseq fun x F I w hc hr hs => by
  replace hc : newB x.c = false := hc
  refine ⟨x, I, Imm.le_refl I, trivial, hr, rfl, hs, fun y hy => ⟨(), trivial, ?_, ?_⟩⟩
  · dsimp only [newC, newNC]; rw [hc]; rfl
  · dsimp only [newC, newNC]; rw [hc]; exact Ent.pick [1] rfl rfl
def awC : Con where
  X := Unit
  Y := Unit
  args _ := []
  pre _ := []
  cond _ := True
  rdc _ _ := True
  rel _ _ := True
  val _ _ := .returned (.bool true)
  post _ _ := []
end Go.Proofs.Ytkmdgnbfojkcnaa
