/- The clock's take. -/
import Derived.Test.YtmknmibmnidnoaaClkH
set_option linter.all false
namespace Go.Proofs.Ytmknmibmnidnoaa
open Go
def rqT (k : KT) (F : Atom) : Prop := Look F ⟨k.cb, 0, none⟩ (.pointer (some ⟨k.b, 0, none⟩))
def rqC (k : KC) (F : Atom) : Prop := rkC k F
def rqD (k : KD) (F : Atom) : Prop := rkD k F
theorem rqT_mono (k : KT) (A B : Atom) (h : Sub A B) (hk : rqT k A) : rqT k B := hk.sub h
theorem rqC_mono (k : KC) (A B : Atom) (h : Sub A B) (hk : rqC k A) : rqC k B := rkC_mono k A B h hk
theorem rqD_mono (k : KD) (A B : Atom) (h : Sub A B) (hk : rqD k A) : rqD k B := rkD_mono k A B h hk
def okT (b : Nat) (now : Int) (k : KT) : Prop := k.b = b ∧ k.now = now
def okC (_ : Nat) (_ : Int) (_ : KC) : Prop := True
def okD (_ : Nat) (_ : Int) (_ : KD) : Prop := True
theorem rk_ofT {S : St} {touch : List Nat} {F : Atom} {b : Nat} {now : Int} {row : Row} {k : KT} (i j : Nat) (hk : okT b now k) (hi : i ∉ touch) (hj : j ∉ touch) (e1 : gt S i = clkA b now row) (e2 : gt S j = F) (h : rqT k F) : rkT k (.pred (rest S touch)) := by
  obtain ⟨rfl, rfl⟩ := hk
  refine ⟨Look.sub (sub_rest j hj e2) h, Look.rest hi ?_⟩
  rw [e1]; exact Look.cells rfl
theorem rk_ofC {S : St} {touch : List Nat} {F : Atom} {b : Nat} {now : Int} {row : Row} {k : KC} (i j : Nat) (_ : okC b now k) (_ : i ∉ touch) (hj : j ∉ touch) (_ : gt S i = clkA b now row) (e2 : gt S j = F) (h : rqC k F) : rkC k (.pred (rest S touch)) :=
  rkC_mono k _ _ (sub_rest j hj e2) h
theorem rk_ofD {S : St} {touch : List Nat} {F : Atom} {b : Nat} {now : Int} {row : Row} {k : KD} (i j : Nat) (_ : okD b now k) (_ : i ∉ touch) (hj : j ∉ touch) (_ : gt S i = clkA b now row) (e2 : gt S j = F) (h : rqD k F) : rkD k (.pred (rest S touch)) :=
  rkD_mono k _ _ (sub_rest j hj e2) h
structure DGT where
  ts : List Tmr
  row : Row
  k : KT
  gb : Nat
  ob : Nat
  r : Row
  ns : List Int
def dgTC : Con where
  X := DGT
  Y := DfY
  args x := [.slice x.row.a x.row.n x.row.cap, fvK x.gb x.ob]
  pre x := [x.row.A, outA x.ob x.r, x.r.A]
  cond x := isTs x.ts x.row ∧ isNs x.ns x.r ∧ x.ns.length ≤ 300
  rdc x F := Look F ⟨x.gb, 0, none⟩ (fvT x.k) ∧ rkT x.k F
  rel x y := isTs (stay (gT x.k) x.ts) y.row ∧ isNs (x.ns ++ nts (gT x.k) x.ts) y.r
  val _ y := .returned (.slice y.row.a y.row.n y.row.cap)
  post x y := [y.row.A, outA x.ob y.r, y.r.A]
  rmono x A B h hk := ⟨hk.1.sub h, rkT_mono x.k A B h hk.2⟩
theorem dgT_ok : FnOk Try.prog 32 dgTC := by
  refine ⟨fun x F I w hc hr hs => ?_⟩
  obtain ⟨ts, row, k, gb, ob, r, ns⟩ := x
  obtain ⟨⟨hrow, hn, h128, hsrt⟩, hns, hlen⟩ := hc
  dsimp only at hrow hn h128 hsrt hns hlen
  cases hrow with
  | nil h =>
    have : ts = [] := List.eq_nil_of_length_eq_zero hn.symm
    subst this
    refine (dfN_ok.h ⟨fvK gb ob, outA ob r, r.A⟩ F I w trivial trivial hs).mono ?_
    rintro e w' ⟨_, J, _, rfl, hle, hsat, henv⟩
    exact ⟨⟨⟨none, 0, 0, .emp⟩, r⟩, J, ⟨isTs_nil, by simpa [nts] using hns⟩, rfl, hle, hsat, henv⟩
  | blk rb n' cap sp hl hs' hn' =>
    dsimp only at hn
    subst hn
    exact dfT_ok.h ⟨ts, rb, cap, sp, k, gb, ob, r, ns⟩ F I w ⟨hs', hn', h128, hns, hlen, hsrt⟩ hr hs
structure TCT where
  b : Nat
  now : Int
  ts : List Tmr
  row : Row
  k : KT
def tcTC : Con where
  X := TCT
  Y := DfY
  args x := [.pointer (some ⟨x.b, 0, none⟩), fvT x.k]
  pre x := [clkA x.b x.now x.row, x.row.A]
  cond x := isTs x.ts x.row ∧ okT x.b x.now x.k
  rdc x F := rqT x.k F
  rel x y := isTs (stay (gT x.k) x.ts) y.row ∧ isNs (nts (gT x.k) x.ts) y.r
  val _ y := .returned (.slice y.r.a y.r.n y.r.cap)
  post x y := [clkA x.b x.now y.row, y.row.A, y.r.A]
  rmono x A B h hk := rqT_mono x.k A B h hk
def tcTOv (_x : TCT) (_F : Atom) : List (Nat × Nat × OH) := [(2, 6, .c dgTC [1, 2000, 7777] [1, 2000, 7777]), (3, 0, .q [.atj 2000])]
noncomputable def tcT_H (x : Con.X tcTC) (F : Atom) : Hints where
  op := hk ((tcTOv x F) ++ [(0, 0, OH.n (1000 : Nat)),   (1, 0, OH.n (2000 : Nat)),   (2, 4, OH.q [LH.atj (0 : Nat)]),   (2, 9, OH.w [LH.atj (0 : Nat)])])
  inv := (fun _ _ _ => none) x F
  cut := (fun _ _ _ => none) x F
  ord := (fun _ => [])
set_option maxRecDepth 100000 in
theorem tcT_vc (x : TCT) (F : Atom) (hc : Con.cond tcTC x) (hr : Con.rdc tcTC x F) :
  ∀ (b b_1 : Nat),
    Same { block := x.b, off := (1 : Nat) } x.b ∧
      FnOk Try.prog (32 : Nat) dgTC ∧
        true = true ∧
          ∃ (x_1 : DGT),
            [Value.slice x.row.a x.row.n x.row.cap, Value.func (Fn.func (33 : Nat)) { toList := [] } { toList := [Value.pointer (some { block := b, off := (0 : Nat) }), Value.pointer (some { block := b_1, off := (0 : Nat) })] }] = [Value.slice x_1.row.a x_1.row.n x_1.row.cap, Value.func (Fn.func (33 : Nat)) { toList := [] } { toList := [Value.pointer (some { block := x_1.gb, off := (0 : Nat) }), Value.pointer (some { block := x_1.ob, off := (0 : Nat) })] }] ∧
              [x.row.A, Atom.cells b_1 [Value.slice none (0 : Nat) (0 : Nat)] (32 : Nat), Atom.emp] = [x_1.row.A, Atom.cells x_1.ob [Value.slice x_1.r.a x_1.r.n x_1.r.cap] (32 : Nat), x_1.r.A] ∧
                (isTs x_1.ts x_1.row ∧ isNs x_1.ns x_1.r ∧ x_1.ns.length ≤ (300 : Nat)) ∧
                  (Look (Atom.pred (rest [((0 : Nat), Atom.cells x.b [Value.int IntKind.i64 x.now, Value.slice x.row.a x.row.n x.row.cap] (59 : Nat)), ((1 : Nat), x.row.A), ((2 : Nat), F), ((1000 : Nat), Atom.cells b [Value.func (Fn.func (27 : Nat)) { toList := [] } { toList := [Value.pointer (some { block := x.k.cb, off := (0 : Nat) })] }] (67 : Nat)), ((2000 : Nat), Atom.cells b_1 [Value.slice none (0 : Nat) (0 : Nat)] (32 : Nat))] [(1 : Nat), (2000 : Nat), (7777 : Nat)])) { block := x_1.gb, off := (0 : Nat) } (Value.func (Fn.func (27 : Nat)) { toList := [] } { toList := [Value.pointer (some { block := x_1.k.cb, off := (0 : Nat) })] }) ∧
                      rkT x_1.k (Atom.pred (rest [((0 : Nat), Atom.cells x.b [Value.int IntKind.i64 x.now, Value.slice x.row.a x.row.n x.row.cap] (59 : Nat)), ((1 : Nat), x.row.A), ((2 : Nat), F), ((1000 : Nat), Atom.cells b [Value.func (Fn.func (27 : Nat)) { toList := [] } { toList := [Value.pointer (some { block := x.k.cb, off := (0 : Nat) })] }] (67 : Nat)), ((2000 : Nat), Atom.cells b_1 [Value.slice none (0 : Nat) (0 : Nat)] (32 : Nat))] [(1 : Nat), (2000 : Nat), (7777 : Nat)]))) ∧
                    ∀ (y : DfY), isTs (stay (gT x_1.k) x_1.ts) y.row ∧ isNs (x_1.ns ++ nts (gT x_1.k) x_1.ts) y.r → Same { block := x.b, off := (1 : Nat) } x.b ∧ Same { block := b_1, off := (0 : Nat) } x_1.ob ∧ Done tcTC x F (Ending.returned (Value.slice y.r.a y.r.n y.r.cap)) [((0 : Nat), Atom.cells x.b [Value.int IntKind.i64 x.now, Value.slice y.row.a y.row.n y.row.cap] (59 : Nat)), ((1 : Nat), y.row.A), ((2 : Nat), F), ((1000 : Nat), Atom.cells b [Value.func (Fn.func (27 : Nat)) { toList := [] } { toList := [Value.pointer (some { block := x.k.cb, off := (0 : Nat) })] }] (67 : Nat)), ((2000 : Nat), Atom.cells x_1.ob [Value.slice y.r.a y.r.n y.r.cap] (32 : Nat)), ((7777 : Nat), y.r.A)] := by
  obtain ⟨b, now, ts, row, k⟩ := x
  obtain ⟨hts, hok⟩ := hc
  dsimp only at hts hok ⊢
  refine fun gb ob => ⟨⟨rfl, rfl⟩, dgT_ok, rfl, ⟨ts, row, k, gb, ob, ⟨none, 0, 0, .emp⟩, []⟩, rfl, rfl, ⟨hts, ⟨.nil rfl, rfl⟩, Nat.zero_le _⟩, ⟨Look.rest (j := 1000) (by simp) (Look.cells rfl), rk_ofT 0 2 hok (by simp) (by simp) rfl rfl hr⟩, fun y hy => ⟨⟨rfl, rfl⟩, ⟨rfl, rfl⟩, y, ⟨hy.1, ?_⟩, rfl, Ent.pick [0, 1, 7777, 2] rfl rfl⟩⟩
  have := hy.2
  rwa [List.nil_append] at this
set_option maxRecDepth 100000 in
theorem tcT_ok : FnOk Try.prog 26 tcTC :=
  fnOk (N := 16) (by kernel_rfl) Try.func26 rfl (by kernel_rfl) (fun _ => Nat.le_of_ble_eq_true rfl) tcT_H [] fun x F hc hr => Eq.mpr (by kernel_rfl) (tcT_vc x F hc hr)
structure DGC where
  ts : List Tmr
  row : Row
  k : KC
  gb : Nat
  ob : Nat
  r : Row
  ns : List Int
def dgCC : Con where
  X := DGC
  Y := DfY
  args x := [.slice x.row.a x.row.n x.row.cap, fvK x.gb x.ob]
  pre x := [x.row.A, outA x.ob x.r, x.r.A]
  cond x := isTs x.ts x.row ∧ isNs x.ns x.r ∧ x.ns.length ≤ 300
  rdc x F := Look F ⟨x.gb, 0, none⟩ (fvC x.k) ∧ rkC x.k F
  rel x y := isTs (stay (gC x.k) x.ts) y.row ∧ isNs (x.ns ++ nts (gC x.k) x.ts) y.r
  val _ y := .returned (.slice y.row.a y.row.n y.row.cap)
  post x y := [y.row.A, outA x.ob y.r, y.r.A]
  rmono x A B h hk := ⟨hk.1.sub h, rkC_mono x.k A B h hk.2⟩
theorem dgC_ok : FnOk Try.prog 32 dgCC := by
  refine ⟨fun x F I w hc hr hs => ?_⟩
  obtain ⟨ts, row, k, gb, ob, r, ns⟩ := x
  obtain ⟨⟨hrow, hn, h128, hsrt⟩, hns, hlen⟩ := hc
  dsimp only at hrow hn h128 hsrt hns hlen
  cases hrow with
  | nil h =>
    have : ts = [] := List.eq_nil_of_length_eq_zero hn.symm
    subst this
    refine (dfN_ok.h ⟨fvK gb ob, outA ob r, r.A⟩ F I w trivial trivial hs).mono ?_
    rintro e w' ⟨_, J, _, rfl, hle, hsat, henv⟩
    exact ⟨⟨⟨none, 0, 0, .emp⟩, r⟩, J, ⟨isTs_nil, by simpa [nts] using hns⟩, rfl, hle, hsat, henv⟩
  | blk rb n' cap sp hl hs' hn' =>
    dsimp only at hn
    subst hn
    exact dfC_ok.h ⟨ts, rb, cap, sp, k, gb, ob, r, ns⟩ F I w ⟨hs', hn', h128, hns, hlen, hsrt⟩ hr hs
structure TCC where
  b : Nat
  now : Int
  ts : List Tmr
  row : Row
  k : KC
def tcCC : Con where
  X := TCC
  Y := DfY
  args x := [.pointer (some ⟨x.b, 0, none⟩), fvC x.k]
  pre x := [clkA x.b x.now x.row, x.row.A]
  cond x := isTs x.ts x.row ∧ okC x.b x.now x.k
  rdc x F := rqC x.k F
  rel x y := isTs (stay (gC x.k) x.ts) y.row ∧ isNs (nts (gC x.k) x.ts) y.r
  val _ y := .returned (.slice y.r.a y.r.n y.r.cap)
  post x y := [clkA x.b x.now y.row, y.row.A, y.r.A]
  rmono x A B h hk := rqC_mono x.k A B h hk
def tcCOv (_x : TCC) (_F : Atom) : List (Nat × Nat × OH) := [(2, 6, .c dgCC [1, 2000, 7777] [1, 2000, 7777]), (3, 0, .q [.atj 2000])]
noncomputable def tcC_H (x : Con.X tcCC) (F : Atom) : Hints where
  op := hk ((tcCOv x F) ++ [(0, 0, OH.n (1000 : Nat)),   (1, 0, OH.n (2000 : Nat)),   (2, 4, OH.q [LH.atj (0 : Nat)]),   (2, 9, OH.w [LH.atj (0 : Nat)])])
  inv := (fun _ _ _ => none) x F
  cut := (fun _ _ _ => none) x F
  ord := (fun _ => [])
set_option maxRecDepth 100000 in
theorem tcC_vc (x : TCC) (F : Atom) (hc : Con.cond tcCC x) (hr : Con.rdc tcCC x F) :
  ∀ (b b_1 : Nat),
    Same { block := x.b, off := (1 : Nat) } x.b ∧
      FnOk Try.prog (32 : Nat) dgCC ∧
        true = true ∧
          ∃ (x_1 : DGC),
            [Value.slice x.row.a x.row.n x.row.cap, Value.func (Fn.func (33 : Nat)) { toList := [] } { toList := [Value.pointer (some { block := b, off := (0 : Nat) }), Value.pointer (some { block := b_1, off := (0 : Nat) })] }] = [Value.slice x_1.row.a x_1.row.n x_1.row.cap, Value.func (Fn.func (33 : Nat)) { toList := [] } { toList := [Value.pointer (some { block := x_1.gb, off := (0 : Nat) }), Value.pointer (some { block := x_1.ob, off := (0 : Nat) })] }] ∧
              [x.row.A, Atom.cells b_1 [Value.slice none (0 : Nat) (0 : Nat)] (32 : Nat), Atom.emp] = [x_1.row.A, Atom.cells x_1.ob [Value.slice x_1.r.a x_1.r.n x_1.r.cap] (32 : Nat), x_1.r.A] ∧
                (isTs x_1.ts x_1.row ∧ isNs x_1.ns x_1.r ∧ x_1.ns.length ≤ (300 : Nat)) ∧
                  (Look (Atom.pred (rest [((0 : Nat), Atom.cells x.b [Value.int IntKind.i64 x.now, Value.slice x.row.a x.row.n x.row.cap] (59 : Nat)), ((1 : Nat), x.row.A), ((2 : Nat), F), ((1000 : Nat), Atom.cells b [Value.func (Fn.func (29 : Nat)) { toList := [] } { toList := [Value.pointer (some { block := x.k.c1, off := (0 : Nat) }), Value.pointer (some { block := x.k.c2, off := (0 : Nat) })] }] (67 : Nat)), ((2000 : Nat), Atom.cells b_1 [Value.slice none (0 : Nat) (0 : Nat)] (32 : Nat))] [(1 : Nat), (2000 : Nat), (7777 : Nat)])) { block := x_1.gb, off := (0 : Nat) } (Value.func (Fn.func (29 : Nat)) { toList := [] } { toList := [Value.pointer (some { block := x_1.k.c1, off := (0 : Nat) }), Value.pointer (some { block := x_1.k.c2, off := (0 : Nat) })] }) ∧
                      rkC x_1.k (Atom.pred (rest [((0 : Nat), Atom.cells x.b [Value.int IntKind.i64 x.now, Value.slice x.row.a x.row.n x.row.cap] (59 : Nat)), ((1 : Nat), x.row.A), ((2 : Nat), F), ((1000 : Nat), Atom.cells b [Value.func (Fn.func (29 : Nat)) { toList := [] } { toList := [Value.pointer (some { block := x.k.c1, off := (0 : Nat) }), Value.pointer (some { block := x.k.c2, off := (0 : Nat) })] }] (67 : Nat)), ((2000 : Nat), Atom.cells b_1 [Value.slice none (0 : Nat) (0 : Nat)] (32 : Nat))] [(1 : Nat), (2000 : Nat), (7777 : Nat)]))) ∧
                    ∀ (y : DfY), isTs (stay (gC x_1.k) x_1.ts) y.row ∧ isNs (x_1.ns ++ nts (gC x_1.k) x_1.ts) y.r → Same { block := x.b, off := (1 : Nat) } x.b ∧ Same { block := b_1, off := (0 : Nat) } x_1.ob ∧ Done tcCC x F (Ending.returned (Value.slice y.r.a y.r.n y.r.cap)) [((0 : Nat), Atom.cells x.b [Value.int IntKind.i64 x.now, Value.slice y.row.a y.row.n y.row.cap] (59 : Nat)), ((1 : Nat), y.row.A), ((2 : Nat), F), ((1000 : Nat), Atom.cells b [Value.func (Fn.func (29 : Nat)) { toList := [] } { toList := [Value.pointer (some { block := x.k.c1, off := (0 : Nat) }), Value.pointer (some { block := x.k.c2, off := (0 : Nat) })] }] (67 : Nat)), ((2000 : Nat), Atom.cells x_1.ob [Value.slice y.r.a y.r.n y.r.cap] (32 : Nat)), ((7777 : Nat), y.r.A)] := by
  obtain ⟨b, now, ts, row, k⟩ := x
  obtain ⟨hts, hok⟩ := hc
  dsimp only at hts hok ⊢
  refine fun gb ob => ⟨⟨rfl, rfl⟩, dgC_ok, rfl, ⟨ts, row, k, gb, ob, ⟨none, 0, 0, .emp⟩, []⟩, rfl, rfl, ⟨hts, ⟨.nil rfl, rfl⟩, Nat.zero_le _⟩, ⟨Look.rest (j := 1000) (by simp) (Look.cells rfl), rk_ofC 0 2 hok (by simp) (by simp) rfl rfl hr⟩, fun y hy => ⟨⟨rfl, rfl⟩, ⟨rfl, rfl⟩, y, ⟨hy.1, ?_⟩, rfl, Ent.pick [0, 1, 7777, 2] rfl rfl⟩⟩
  have := hy.2
  rwa [List.nil_append] at this
set_option maxRecDepth 100000 in
theorem tcC_ok : FnOk Try.prog 26 tcCC :=
  fnOk (N := 16) (by kernel_rfl) Try.func26 rfl (by kernel_rfl) (fun _ => Nat.le_of_ble_eq_true rfl) tcC_H [] fun x F hc hr => Eq.mpr (by kernel_rfl) (tcC_vc x F hc hr)
structure DGD where
  ts : List Tmr
  row : Row
  k : KD
  gb : Nat
  ob : Nat
  r : Row
  ns : List Int
def dgDC : Con where
  X := DGD
  Y := DfY
  args x := [.slice x.row.a x.row.n x.row.cap, fvK x.gb x.ob]
  pre x := [x.row.A, outA x.ob x.r, x.r.A]
  cond x := isTs x.ts x.row ∧ isNs x.ns x.r ∧ x.ns.length ≤ 300
  rdc x F := Look F ⟨x.gb, 0, none⟩ (fvD x.k) ∧ rkD x.k F
  rel x y := isTs (stay (gD x.k) x.ts) y.row ∧ isNs (x.ns ++ nts (gD x.k) x.ts) y.r
  val _ y := .returned (.slice y.row.a y.row.n y.row.cap)
  post x y := [y.row.A, outA x.ob y.r, y.r.A]
  rmono x A B h hk := ⟨hk.1.sub h, rkD_mono x.k A B h hk.2⟩
theorem dgD_ok : FnOk Try.prog 32 dgDC := by
  refine ⟨fun x F I w hc hr hs => ?_⟩
  obtain ⟨ts, row, k, gb, ob, r, ns⟩ := x
  obtain ⟨⟨hrow, hn, h128, hsrt⟩, hns, hlen⟩ := hc
  dsimp only at hrow hn h128 hsrt hns hlen
  cases hrow with
  | nil h =>
    have : ts = [] := List.eq_nil_of_length_eq_zero hn.symm
    subst this
    refine (dfN_ok.h ⟨fvK gb ob, outA ob r, r.A⟩ F I w trivial trivial hs).mono ?_
    rintro e w' ⟨_, J, _, rfl, hle, hsat, henv⟩
    exact ⟨⟨⟨none, 0, 0, .emp⟩, r⟩, J, ⟨isTs_nil, by simpa [nts] using hns⟩, rfl, hle, hsat, henv⟩
  | blk rb n' cap sp hl hs' hn' =>
    dsimp only at hn
    subst hn
    exact dfD_ok.h ⟨ts, rb, cap, sp, k, gb, ob, r, ns⟩ F I w ⟨hs', hn', h128, hns, hlen, hsrt⟩ hr hs
structure TCD where
  b : Nat
  now : Int
  ts : List Tmr
  row : Row
  k : KD
def tcDC : Con where
  X := TCD
  Y := DfY
  args x := [.pointer (some ⟨x.b, 0, none⟩), fvD x.k]
  pre x := [clkA x.b x.now x.row, x.row.A]
  cond x := isTs x.ts x.row ∧ okD x.b x.now x.k
  rdc x F := rqD x.k F
  rel x y := isTs (stay (gD x.k) x.ts) y.row ∧ isNs (nts (gD x.k) x.ts) y.r
  val _ y := .returned (.slice y.r.a y.r.n y.r.cap)
  post x y := [clkA x.b x.now y.row, y.row.A, y.r.A]
  rmono x A B h hk := rqD_mono x.k A B h hk
def tcDOv (_x : TCD) (_F : Atom) : List (Nat × Nat × OH) := [(2, 6, .c dgDC [1, 2000, 7777] [1, 2000, 7777]), (3, 0, .q [.atj 2000])]
noncomputable def tcD_H (x : Con.X tcDC) (F : Atom) : Hints where
  op := hk ((tcDOv x F) ++ [(0, 0, OH.n (1000 : Nat)),   (1, 0, OH.n (2000 : Nat)),   (2, 4, OH.q [LH.atj (0 : Nat)]),   (2, 9, OH.w [LH.atj (0 : Nat)])])
  inv := (fun _ _ _ => none) x F
  cut := (fun _ _ _ => none) x F
  ord := (fun _ => [])
set_option maxRecDepth 100000 in
theorem tcD_vc (x : TCD) (F : Atom) (hc : Con.cond tcDC x) (hr : Con.rdc tcDC x F) :
  ∀ (b b_1 : Nat),
    Same { block := x.b, off := (1 : Nat) } x.b ∧
      FnOk Try.prog (32 : Nat) dgDC ∧
        true = true ∧
          ∃ (x_1 : DGD),
            [Value.slice x.row.a x.row.n x.row.cap, Value.func (Fn.func (33 : Nat)) { toList := [] } { toList := [Value.pointer (some { block := b, off := (0 : Nat) }), Value.pointer (some { block := b_1, off := (0 : Nat) })] }] = [Value.slice x_1.row.a x_1.row.n x_1.row.cap, Value.func (Fn.func (33 : Nat)) { toList := [] } { toList := [Value.pointer (some { block := x_1.gb, off := (0 : Nat) }), Value.pointer (some { block := x_1.ob, off := (0 : Nat) })] }] ∧
              [x.row.A, Atom.cells b_1 [Value.slice none (0 : Nat) (0 : Nat)] (32 : Nat), Atom.emp] = [x_1.row.A, Atom.cells x_1.ob [Value.slice x_1.r.a x_1.r.n x_1.r.cap] (32 : Nat), x_1.r.A] ∧
                (isTs x_1.ts x_1.row ∧ isNs x_1.ns x_1.r ∧ x_1.ns.length ≤ (300 : Nat)) ∧
                  (Look (Atom.pred (rest [((0 : Nat), Atom.cells x.b [Value.int IntKind.i64 x.now, Value.slice x.row.a x.row.n x.row.cap] (59 : Nat)), ((1 : Nat), x.row.A), ((2 : Nat), F), ((1000 : Nat), Atom.cells b [Value.func (Fn.func (30 : Nat)) { toList := [] } { toList := [Value.pointer (some { block := x.k.c1, off := (0 : Nat) })] }] (67 : Nat)), ((2000 : Nat), Atom.cells b_1 [Value.slice none (0 : Nat) (0 : Nat)] (32 : Nat))] [(1 : Nat), (2000 : Nat), (7777 : Nat)])) { block := x_1.gb, off := (0 : Nat) } (Value.func (Fn.func (30 : Nat)) { toList := [] } { toList := [Value.pointer (some { block := x_1.k.c1, off := (0 : Nat) })] }) ∧
                      rkD x_1.k (Atom.pred (rest [((0 : Nat), Atom.cells x.b [Value.int IntKind.i64 x.now, Value.slice x.row.a x.row.n x.row.cap] (59 : Nat)), ((1 : Nat), x.row.A), ((2 : Nat), F), ((1000 : Nat), Atom.cells b [Value.func (Fn.func (30 : Nat)) { toList := [] } { toList := [Value.pointer (some { block := x.k.c1, off := (0 : Nat) })] }] (67 : Nat)), ((2000 : Nat), Atom.cells b_1 [Value.slice none (0 : Nat) (0 : Nat)] (32 : Nat))] [(1 : Nat), (2000 : Nat), (7777 : Nat)]))) ∧
                    ∀ (y : DfY), isTs (stay (gD x_1.k) x_1.ts) y.row ∧ isNs (x_1.ns ++ nts (gD x_1.k) x_1.ts) y.r → Same { block := x.b, off := (1 : Nat) } x.b ∧ Same { block := b_1, off := (0 : Nat) } x_1.ob ∧ Done tcDC x F (Ending.returned (Value.slice y.r.a y.r.n y.r.cap)) [((0 : Nat), Atom.cells x.b [Value.int IntKind.i64 x.now, Value.slice y.row.a y.row.n y.row.cap] (59 : Nat)), ((1 : Nat), y.row.A), ((2 : Nat), F), ((1000 : Nat), Atom.cells b [Value.func (Fn.func (30 : Nat)) { toList := [] } { toList := [Value.pointer (some { block := x.k.c1, off := (0 : Nat) })] }] (67 : Nat)), ((2000 : Nat), Atom.cells x_1.ob [Value.slice y.r.a y.r.n y.r.cap] (32 : Nat)), ((7777 : Nat), y.r.A)] := by
  obtain ⟨b, now, ts, row, k⟩ := x
  obtain ⟨hts, hok⟩ := hc
  dsimp only at hts hok ⊢
  refine fun gb ob => ⟨⟨rfl, rfl⟩, dgD_ok, rfl, ⟨ts, row, k, gb, ob, ⟨none, 0, 0, .emp⟩, []⟩, rfl, rfl, ⟨hts, ⟨.nil rfl, rfl⟩, Nat.zero_le _⟩, ⟨Look.rest (j := 1000) (by simp) (Look.cells rfl), rk_ofD 0 2 hok (by simp) (by simp) rfl rfl hr⟩, fun y hy => ⟨⟨rfl, rfl⟩, ⟨rfl, rfl⟩, y, ⟨hy.1, ?_⟩, rfl, Ent.pick [0, 1, 7777, 2] rfl rfl⟩⟩
  have := hy.2
  rwa [List.nil_append] at this
set_option maxRecDepth 100000 in
theorem tcD_ok : FnOk Try.prog 26 tcDC :=
  fnOk (N := 16) (by kernel_rfl) Try.func26 rfl (by kernel_rfl) (fun _ => Nat.le_of_ble_eq_true rfl) tcD_H [] fun x F hc hr => Eq.mpr (by kernel_rfl) (tcD_vc x F hc hr)
end Go.Proofs.Ytmknmibmnidnoaa
