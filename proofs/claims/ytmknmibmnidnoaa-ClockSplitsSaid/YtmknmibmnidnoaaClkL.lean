/- Comparing and copying timers; the first one. -/
import Derived.Test.YtmknmibmnidnoaaClkK
import Derived.Laws.StructEq
set_option linter.all false
namespace Go.Proofs.Ytmknmibmnidnoaa
open Go
def neqT : QCon where
  X := Tmr
  args x := [.agg ⟨x.enc⟩, .agg ⟨x.enc⟩]
  cond _ := True
  val _ := .bool false
theorem neqT_ok {o : Oper} {x y : Operand} {rt : TypeId} (ho : o.op = .binOp .neq 44 x y rt) : QOpOk Try.prog o neqT := by
  refine ⟨fun X w ρ ha hc => ?_⟩
  simp only [ho, Op.operands, neqT] at ha
  obtain ⟨hx, hy⟩ : ρ x = .agg ⟨X.enc⟩ ∧ ρ y = .agg ⟨X.enc⟩ := by simpa using ha
  have hS : Try.prog.underlying 44 = some (.struct (Try.prog.fieldsOf 44)) := by kernel_rfl
  have hp : Try.prog.stoodInHeld 44 = false := by kernel_rfl
  have hg : Try.prog.eqGuardType Try.prog.depth 44 = false := by kernel_rfl
  have he : (Op.equalIn (9999 + 1) 44 (.agg ⟨X.enc⟩) (.agg ⟨X.enc⟩)).run Try.prog w = .ok true w := by
    rw [run_equalIn_agg w 9999 44 _ _ hS hp]
    have hf : ((Try.prog.fieldsOf 44).toList.map fun f => (f.name, f.type, f.offset)) = [("Owner", 3, 0), ("Id", 9, 1), ("Due", 2, 2), ("N", 3, 3)] := by kernel_rfl
    have h3 : Try.prog.underlying 3 = some (.int .i64) := by kernel_rfl
    have h2 : Try.prog.underlying 2 = some (.int .i64) := by kernel_rfl
    have h9 : Try.prog.underlying 9 = some .string := by kernel_rfl
    revert hf
    generalize (Try.prog.fieldsOf 44).toList = fs
    intro hf
    rcases fs with _ | ⟨f1, _ | ⟨f2, _ | ⟨f3, _ | ⟨f4, _ | ⟨f5, r⟩⟩⟩⟩⟩ <;> simp at hf
    obtain ⟨⟨n1, t1, o1⟩, ⟨n2, t2, o2⟩, ⟨n3, t3, o3⟩, ⟨n4, t4, o4⟩⟩ := hf
    simp only [Op.eqFields, n1, t1, o1, n2, t2, o2, n3, t3, o3, n4, t4, o4]
    have e3 : ∀ (a b : Int) (w : World), (Op.equalIn 9999 3 (.int .i64 a) (.int .i64 b)).run Try.prog w = .ok (a == b) w := fun a b w => run_equalIn_int w 9998 3 .i64 .i64 a b h3
    have e2 : ∀ (a b : Int) (w : World), (Op.equalIn 9999 2 (.int .i64 a) (.int .i64 b)).run Try.prog w = .ok (a == b) w := fun a b w => run_equalIn_int w 9998 2 .i64 .i64 a b h2
    have e9 : ∀ (a b : ByteArray) (w : World), (Op.equalIn 9999 9 (.string a) (.string b)).run Try.prog w = .ok (a.toList == b.toList) w := fun a b w => run_equalIn_string w 9998 9 a b h9
    go_simp
    simp [Tmr.enc, e3, e2, e9, Result.andThen]
  simp [execOp, ho, hx, hy, run_eqGuard_agg _ _ _ _ _ _ _ hg, run_neq_struct, he, neqT]
structure TmsX where
  a : Option Addr
  an : Nat
  ac : Nat
  xs : List Tmr
  b : Option Addr
  bn : Nat
  bc : Nat
  ys : List Tmr
def tmsC : Con where
  X := TmsX
  Y := Unit
  args x := [.slice x.a x.an x.ac, .slice x.b x.bn x.bc]
  pre _ := []
  cond x := IsSrc 4 (encT x.xs) x.a x.an ∧ IsSrc 4 (encT x.ys) x.b x.bn ∧ x.an ≤ 1000000 ∧ x.xs = x.ys
  rdc x F := Srcd F x.a (encT x.xs) ∧ Srcd F x.b (encT x.ys)
  rel _ _ := True
  val _ _ := .returned (.bool true)
  post _ _ := []
  rmono _ _ _ h hk := ⟨hk.1.sub h, hk.2.sub h⟩
def tmsInv (x : TmsX) (F : Atom) : Nat → Option Inv := fun
  | 0 => some { X := Nat, P := fun k => k ≤ x.an, mu := fun k => x.an - k, lv := fun k => [(0, .slice x.a x.an x.ac), (1, .slice x.b x.bn x.bc), (12, .int .i64 x.an), (13, .int .i64 k)], st := fun _ => [F] }
  | _ => none
def tmsOv (_x : TmsX) (_F : Atom) : List (Nat × Nat × OH) := [(6, 2, .qo (ixQ 4)), (6, 3, .q [.ex 0 (.int .i64), .ex 0 .str, .ex 0 (.int .i64), .ex 0 (.int .i64)]), (6, 6, .qo (ixQ 4)), (6, 7, .q [.ex 0 (.int .i64), .ex 0 .str, .ex 0 (.int .i64), .ex 0 (.int .i64)]), (6, 8, .qo neqT)]
theorem srcd_enc {F : Atom} {b o j c : Nat} {ts : List Tmr} {t : Tmr} {v : Value} (h : Srcd F (some ⟨b, o, none⟩) (encT ts)) (hj : ts[j]? = some t) (hc : c < 4) (e : t.enc[c]? = some v) : Look F ⟨b, o + (j : Int).toNat * 4 + c, none⟩ v := by
  rw [Int.toNat_natCast, Nat.add_assoc]
  exact h.look ((encT_get ts j c t hj hc).trans e)
noncomputable def tms_H (x : Con.X tmsC) (F : Atom) : Hints where
  op := hk ((tmsOv x F) ++ [])
  inv := tmsInv x F
  cut := (fun _ _ _ => none) x F
  ord := (fun _ => [])
set_option maxRecDepth 100000 in
theorem tms_vc (x : TmsX) (F : Atom) (hc : Con.cond tmsC x) (hr : Con.rdc tmsC x F) :
  Br ((↑x.an : Int) != (↑x.bn : Int)) (Done tmsC x F (Ending.returned (Value.bool false)) [((0 : Nat), F)])
    ((∃ (x_1 : Nat), x_1 ≤ x.an ∧ (Value.slice x.a x.an x.ac = Value.slice x.a x.an x.ac ∧ Value.slice x.b x.bn x.bc = Value.slice x.b x.bn x.bc ∧ Value.int IntKind.i64 (↑x.an : Int) = Value.int IntKind.i64 (↑x.an : Int) ∧ Value.int IntKind.i64 (0 : Int) = Value.int IntKind.i64 (↑x_1 : Int) ∧ True) ∧ Ent [((0 : Nat), F)] [((0 : Nat), F)]) ∧
      ∀ (x_1 : Nat) (js : Nat → Value),
        x_1 ≤ x.an →
          Br (decide ((↑x_1 : Int) < (↑x.an : Int)))
            (true = true ∧
              QOpOk Try.prog (opIn Try.f16 (6 : Nat) (2 : Nat)) (ixQ (4 : Nat)) ∧
                ∃ (x_2 : IxQX),
                  [Value.slice x.a x.an x.ac, Value.int IntKind.i64 (↑x_1 : Int)] = [Value.slice (some { block := x_2.b, off := x_2.o }) x_2.len x_2.cap, Value.int IntKind.i64 x_2.n] ∧
                    ((0 : Int) ≤ x_2.n ∧ x_2.n < (↑x_2.len : Int)) ∧
                      ∃ (n : Int),
                        Look F { block := x_2.b, off := x_2.o + x_2.n.toNat * (4 : Nat) } (Value.int IntKind.i64 n) ∧
                          ∃ (s : ByteArray),
                            Look F { block := x_2.b, off := x_2.o + x_2.n.toNat * (4 : Nat) + (1 : Nat) } (Value.string s) ∧
                              ∃ (n_1 : Int),
                                Look F { block := x_2.b, off := x_2.o + x_2.n.toNat * (4 : Nat) + (2 : Nat) } (Value.int IntKind.i64 n_1) ∧
                                  ∃ (n_2 : Int),
                                    Look F { block := x_2.b, off := x_2.o + x_2.n.toNat * (4 : Nat) + (3 : Nat) } (Value.int IntKind.i64 n_2) ∧
                                      QOpOk Try.prog (opIn Try.f16 (6 : Nat) (6 : Nat)) (ixQ (4 : Nat)) ∧
                                        ∃ (x_3 : IxQX),
                                          [Value.slice x.b x.bn x.bc, Value.int IntKind.i64 (↑x_1 : Int)] = [Value.slice (some { block := x_3.b, off := x_3.o }) x_3.len x_3.cap, Value.int IntKind.i64 x_3.n] ∧
                                            ((0 : Int) ≤ x_3.n ∧ x_3.n < (↑x_3.len : Int)) ∧
                                              ∃ (n_3 : Int),
                                                Look F { block := x_3.b, off := x_3.o + x_3.n.toNat * (4 : Nat) } (Value.int IntKind.i64 n_3) ∧
                                                  ∃ (s_1 : ByteArray),
                                                    Look F { block := x_3.b, off := x_3.o + x_3.n.toNat * (4 : Nat) + (1 : Nat) } (Value.string s_1) ∧
                                                      ∃ (n_4 : Int),
                                                        Look F { block := x_3.b, off := x_3.o + x_3.n.toNat * (4 : Nat) + (2 : Nat) } (Value.int IntKind.i64 n_4) ∧
                                                          ∃ (n_5 : Int),
                                                            Look F { block := x_3.b, off := x_3.o + x_3.n.toNat * (4 : Nat) + (3 : Nat) } (Value.int IntKind.i64 n_5) ∧
                                                              QOpOk Try.prog (opIn Try.f16 (6 : Nat) (8 : Nat)) neqT ∧
                                                                ∃ (x_4 : Tmr),
                                                                  [Value.agg { toList := [Value.int IntKind.i64 n, Value.string s, Value.int IntKind.i64 n_1, Value.int IntKind.i64 n_2] }, Value.agg { toList := [Value.int IntKind.i64 n_3, Value.string s_1, Value.int IntKind.i64 n_4, Value.int IntKind.i64 n_5] }] = [Value.agg { toList := [Value.int IntKind.i64 x_4.ow, Value.string x_4.id, Value.int IntKind.i64 x_4.due, Value.int IntKind.i64 x_4.n] }, Value.agg { toList := [Value.int IntKind.i64 x_4.ow, Value.string x_4.id, Value.int IntKind.i64 x_4.due, Value.int IntKind.i64 x_4.n] }] ∧
                                                                    True ∧ ((-9223372036854775808 : Int) ≤ (↑x_1 : Int) + (1 : Int) ∧ (↑x_1 : Int) + (1 : Int) ≤ (9223372036854775807 : Int)) ∧ ∃ (y : Nat), y ≤ x.an ∧ (Value.slice x.a x.an x.ac = Value.slice x.a x.an x.ac ∧ Value.slice x.b x.bn x.bc = Value.slice x.b x.bn x.bc ∧ Value.int IntKind.i64 (↑x.an : Int) = Value.int IntKind.i64 (↑x.an : Int) ∧ Value.int IntKind.i64 ((↑x_1 : Int) + (1 : Int)) = Value.int IntKind.i64 (↑y : Int) ∧ True) ∧ Ent [((0 : Nat), F)] [((0 : Nat), F)] ∧ x.an - y < x.an - x_1)
            (Done tmsC x F (Ending.returned (Value.bool true)) [((0 : Nat), F)])) := by
  obtain ⟨a, an, ac, xs, b, bn, bc, ys⟩ := x
  obtain ⟨ha, hb, hn, he⟩ := hc
  obtain ⟨hra, hrb⟩ := hr
  dsimp only at ha hb hn hra hrb he ⊢
  subst he
  have la : xs.length = an := by have := ha.len; rw [encT_length] at this; omega
  have lb : xs.length = bn := by have := hb.len; rw [encT_length] at this; omega
  have lab : an = bn := by omega
  subst lab
  refine br_intro (fun he => by simp at he) (fun _ => ⟨⟨0, Nat.zero_le _, ⟨rfl, rfl, rfl, rfl, trivial⟩, Ent.pick [0] rfl rfl⟩, ?_⟩)
  intro k js hk
  refine br_decide (fun hlt => ?_) (fun _ => ⟨(), trivial, rfl, Ent.pick [0] rfl rfl⟩)
  obtain ⟨b1, o1, rfl⟩ := ha.some (by omega)
  obtain ⟨b2, o2, rfl⟩ := hb.some (by omega)
  obtain ⟨t, ht⟩ : ∃ t, xs[k]? = some t := ⟨xs[k], List.getElem?_eq_getElem (by omega)⟩
  exact ⟨rfl, ixq_ok 4 rfl rfl rfl rfl, ⟨b1, o1, an, ac, k⟩, rfl, by dsimp only; omega, t.ow, srcd_enc (c := 0) hra ht (by decide) rfl, t.id, srcd_enc (c := 1) hra ht (by decide) rfl, t.due, srcd_enc (c := 2) hra ht (by decide) rfl, t.n, srcd_enc (c := 3) hra ht (by decide) rfl,
    ixq_ok 4 rfl rfl rfl rfl, ⟨b2, o2, an, bc, k⟩, rfl, by dsimp only; omega, t.ow, srcd_enc (c := 0) hrb ht (by decide) rfl, t.id, srcd_enc (c := 1) hrb ht (by decide) rfl, t.due, srcd_enc (c := 2) hrb ht (by decide) rfl, t.n, srcd_enc (c := 3) hrb ht (by decide) rfl,
    neqT_ok rfl, t, rfl, trivial, by omega, k + 1, by omega, ⟨rfl, rfl, rfl, rfl, trivial⟩, Ent.pick [0] rfl rfl, by omega⟩
set_option maxRecDepth 100000 in
theorem tms_ok : FnOk Try.prog 16 tmsC :=
  fnOk (N := 26) (by kernel_rfl) Try.func16 rfl (by kernel_rfl) (fun _ => Nat.le_of_ble_eq_true rfl) tms_H [] fun x F hc hr => Eq.mpr (by kernel_rfl) (tms_vc x F hc hr)
structure ClnX where
  a : Addr
  n : Nat
  cap : Nat
  ys : List Value
def clnNC : Con where
  X := Unit
  Y := Unit
  args _ := [.slice none 0 0]
  pre _ := []
  cond _ := True
  rdc _ _ := True
  rel _ _ := True
  val _ _ := .returned (.slice none 0 0)
  post _ _ := []
noncomputable def clnN_H (x : Con.X clnNC) (F : Atom) : Hints where
  op := hk (((fun _ _ => []) x F) ++ [])
  inv := (fun _ _ _ => none) x F
  cut := (fun _ _ _ => none) x F
  ord := (fun _ => [])
set_option maxRecDepth 100000 in
theorem clnN_vc (x : PUnit) (F : Atom) (hc : Con.cond clnNC x) (hr : Con.rdc clnNC x F) :
  Done clnNC x F (Ending.returned (Value.slice none (0 : Nat) (0 : Nat))) [((0 : Nat), F)] := by
  exact ⟨(), trivial, rfl, Ent.pick [0] rfl rfl⟩
set_option maxRecDepth 100000 in
theorem clnN_ok : FnOk Try.prog 25 clnNC :=
  fnOk (N := 8) (by kernel_rfl) Try.func25 rfl (by kernel_rfl) (fun _ => Nat.le_of_ble_eq_true rfl) clnN_H [] fun x F hc hr => Eq.mpr (by kernel_rfl) (clnN_vc x F hc hr)
def clnBC : Con where
  X := ClnX
  Y := Row
  args x := [.slice (some x.a) x.n x.cap]
  pre _ := []
  cond x := x.ys.length = x.n * 4 ∧ (∀ u ∈ x.ys, u.oneCell' = true) ∧ x.n ≤ 1000
  rdc x F := Seg F x.a x.ys
  rel x r := IsRow 44 4 x.ys r ∧ r.n = x.n
  val _ r := .returned (.slice r.a r.n r.cap)
  post _ r := [r.A]
  rmono _ _ _ h hk := hk.sub h
def clnBOv (_x : ClnX) (_F : Atom) : List (Nat × Nat × OH) := [(3, 2, .o (apC 44 4 40) [4000] [4000])]
noncomputable def clnB_H (x : Con.X clnBC) (F : Atom) : Hints where
  op := hk ((clnBOv x F) ++ [(3, 0, OH.n (4000 : Nat))])
  inv := (fun _ _ _ => none) x F
  cut := (fun _ _ _ => none) x F
  ord := (fun _ => [])
set_option maxRecDepth 100000 in
theorem clnB_vc (x : ClnX) (F : Atom) (hc : Con.cond clnBC x) (hr : Con.rdc clnBC x F) :
  ∀ (b : Nat),
    OpOk Try.prog (opIn Try.f25 (3 : Nat) (2 : Nat)) (apC (44 : TypeId) (4 : Nat) (40 : Nat)) ∧
      true = true ∧ ∃ (x_1 : ApX), [Value.slice (some { block := b, off := (0 : Nat) }) (0 : Nat) (0 : Nat), Value.slice (some x.a) x.n x.cap] = [Value.slice x_1.r.a x_1.r.n x_1.r.cap, Value.slice x_1.a x_1.m x_1.c] ∧ [Atom.cells b [] (44 : Nat)] = [x_1.r.A] ∧ (IsRow (44 : Nat) (4 : Nat) x_1.cs x_1.r ∧ x_1.ys.length = x_1.m * (4 : Nat) ∧ (∀ (u : Value), u ∈ x_1.ys → u.oneCell' = true) ∧ (x_1.r.n + x_1.m) * (40 : Nat) ≤ (140737488355328 : Nat) ∧ x_1.r.n + x_1.m ≤ (9223372036854775807 : Nat) ∧ (x_1.a = none → x_1.m = (0 : Nat) ∧ x_1.c = (0 : Nat))) ∧ (∀ (a : Addr), x_1.a = some a → Seg (Atom.pred (rest [((0 : Nat), F), ((4000 : Nat), Atom.cells b [] (44 : Nat))] [(4000 : Nat)])) a x_1.ys) ∧ ∀ (y : Row), IsRow (44 : Nat) (4 : Nat) (x_1.cs ++ x_1.ys) y ∧ y.n = x_1.r.n + x_1.m ∧ (x_1.m = (0 : Nat) → y = x_1.r) → Done clnBC x F (Ending.returned (Value.slice y.a y.n y.cap)) [((0 : Nat), F), ((4000 : Nat), y.A)] := by
  obtain ⟨a, n, cap, ys⟩ := x
  obtain ⟨hyl, hy1, hn⟩ := hc
  dsimp only at hyl hy1 hn ⊢
  refine fun b => ⟨append_ok (P := Try.prog) 4 40 rfl rfl rfl rfl rfl rfl rfl (by decide), rfl, ⟨⟨some ⟨b, 0, none⟩, 0, 0, .cells b [] 44⟩, [], some a, n, cap, ys⟩, rfl, rfl, ⟨.blk b 0 0 [] rfl rfl (Nat.le_refl 0), hyl, hy1, by dsimp only; omega, by dsimp only; omega, by simp⟩, ?_, ?_⟩
  · intro ad h
    cases h
    exact Seg.rest (j := 0) (by simp) hr
  · rintro y ⟨h1, h2, -⟩
    exact ⟨y, ⟨h1, by simpa using h2⟩, rfl, Ent.pick [4000, 0] rfl rfl⟩
set_option maxRecDepth 100000 in
theorem clnB_ok : FnOk Try.prog 25 clnBC :=
  fnOk (N := 8) (by kernel_rfl) Try.func25 rfl (by kernel_rfl) (fun _ => Nat.le_of_ble_eq_true rfl) clnB_H [] fun x F hc hr => Eq.mpr (by kernel_rfl) (clnB_vc x F hc hr)
structure ClX' where
  a : Option Addr
  n : Nat
  cap : Nat
  ts : List Tmr
def clnC : Con where
  X := ClX'
  Y := Row
  args x := [.slice x.a x.n x.cap]
  pre _ := []
  cond x := IsSrc 4 (encT x.ts) x.a x.n ∧ x.ts.length ≤ 1000 ∧ (x.a = none → x.cap = 0)
  rdc x F := Srcd F x.a (encT x.ts)
  rel x r := IsRow 44 4 (encT x.ts) r ∧ r.n = x.ts.length
  val _ r := .returned (.slice r.a r.n r.cap)
  post _ r := [r.A]
  rmono _ _ _ h hk := hk.sub h
theorem cln_ok : FnOk Try.prog 25 clnC := by
  refine ⟨fun x F I w hc hr hs => ?_⟩
  obtain ⟨a, n, cap, ts⟩ := x
  obtain ⟨hsrc, hn, hcap⟩ := hc
  dsimp only at hsrc hn hcap
  have hl := hsrc.len
  rw [encT_length] at hl
  cases hsrc with
  | nil h =>
    have := hcap rfl
    subst this
    refine (clnN_ok.h () F I w trivial trivial hs).mono ?_
    rintro e w' ⟨_, J, _, rfl, hle, hsat, henv⟩
    refine ⟨⟨none, 0, 0, .emp⟩, J, ⟨.nil h, by dsimp only; omega⟩, rfl, hle, hsat.pick [77, 0] rfl rfl, henv⟩
  | blk b o n h =>
    refine (clnB_ok.h ⟨⟨b, o, none⟩, n, cap, encT ts⟩ F I w ⟨h, fun u hu => encT_one hu, by dsimp only; omega⟩ (hr _ rfl) hs).mono ?_
    rintro e w' ⟨y, J, ⟨h1, h2⟩, rfl, hle, hsat, henv⟩
    exact ⟨y, J, ⟨h1, by dsimp only at h2 ⊢; omega⟩, rfl, hle, hsat, henv⟩
  | zero a h =>
    refine (clnB_ok.h ⟨a, 0, cap, encT ts⟩ F I w ⟨by dsimp only; rw [h]; rfl, fun u hu => encT_one hu, by dsimp only; omega⟩ (hr _ rfl) hs).mono ?_
    rintro e w' ⟨y, J, ⟨h1, h2⟩, rfl, hle, hsat, henv⟩
    exact ⟨y, J, ⟨h1, by dsimp only at h2 ⊢; omega⟩, rfl, hle, hsat, henv⟩
def timersC : Con where
  X := ClkX
  Y := Row
  args x := [.pointer (some ⟨x.b, 0, none⟩)]
  pre x := [clkA x.b x.now x.row, x.row.A]
  cond x := isTs x.ts x.row
  rdc _ _ := True
  rel x r := IsRow 44 4 (encT x.ts) r ∧ r.n = x.ts.length
  val _ r := .returned (.slice r.a r.n r.cap)
  post x r := [clkA x.b x.now x.row, x.row.A, r.A]
def timersOv (_x : ClkX) (_F : Atom) : List (Nat × Nat × OH) := [(1, 4, .c clnC [] [7777])]
theorem IsRow.cap0 {e : TypeId} {k : Nat} {cs : List Value} {r : Row} (h : IsRow e k cs r) : r.a = none → r.cap = 0 := by
  cases h with
  | nil _ => exact fun _ => rfl
  | blk => exact fun h => by cases h
noncomputable def timers_H (x : Con.X timersC) (F : Atom) : Hints where
  op := hk ((timersOv x F) ++ [(1, 3, OH.q [LH.atj (0 : Nat)])])
  inv := (fun _ _ _ => none) x F
  cut := (fun _ _ _ => none) x F
  ord := (fun _ => [])
set_option maxRecDepth 100000 in
theorem timers_vc (x : ClkX) (F : Atom) (hc : Con.cond timersC x) (hr : Con.rdc timersC x F) :
  Same { block := x.b, off := (1 : Nat) } x.b ∧ FnOk Try.prog (25 : Nat) clnC ∧ true = true ∧ ∃ (x_1 : ClX'), [Value.slice x.row.a x.row.n x.row.cap] = [Value.slice x_1.a x_1.n x_1.cap] ∧ ([] : List Atom) = [] ∧ (IsSrc (4 : Nat) (encT x_1.ts) x_1.a x_1.n ∧ x_1.ts.length ≤ (1000 : Nat) ∧ (x_1.a = none → x_1.cap = (0 : Nat))) ∧ Srcd (Atom.pred (rest [((0 : Nat), Atom.cells x.b [Value.int IntKind.i64 x.now, Value.slice x.row.a x.row.n x.row.cap] (59 : Nat)), ((1 : Nat), x.row.A), ((2 : Nat), F)] [])) x_1.a (encT x_1.ts) ∧ ∀ (y : Row), IsRow (44 : Nat) (4 : Nat) (encT x_1.ts) y ∧ y.n = x_1.ts.length → Done timersC x F (Ending.returned (Value.slice y.a y.n y.cap)) [((0 : Nat), Atom.cells x.b [Value.int IntKind.i64 x.now, Value.slice x.row.a x.row.n x.row.cap] (59 : Nat)), ((1 : Nat), x.row.A), ((2 : Nat), F), ((7777 : Nat), y.A)] := by
  obtain ⟨b, now, ts, row⟩ := x
  obtain ⟨hrow, hn, h128, hsrt⟩ := hc
  dsimp only at hrow hn h128 hsrt ⊢
  exact ⟨⟨rfl, rfl⟩, cln_ok, rfl, ⟨row.a, row.n, row.cap, ts⟩, rfl, rfl, ⟨hrow.src, by dsimp only; omega, hrow.cap0⟩, Srcd.sub (A := row.A) (sub_rest 1 (by simp) rfl) hrow.srcd, fun y hy => ⟨y, hy, rfl, Ent.pick [0, 1, 7777, 2] rfl rfl⟩⟩
set_option maxRecDepth 100000 in
theorem timers_ok : FnOk Try.prog 14 timersC :=
  fnOk (N := 8) (by kernel_rfl) Try.func14 rfl (by kernel_rfl) (fun _ => Nat.le_of_ble_eq_true rfl) timers_H [] fun x F hc hr => Eq.mpr (by kernel_rfl) (timers_vc x F hc hr)
def nxtI (now : Int) : List Tmr → Int
  | [] => 0
  | t :: _ => max 0 (t.due - now)
def nxtB : List Tmr → Bool
  | [] => false
  | _ :: _ => true
def Bnd (ts : List Tmr) : Prop := ∀ t ∈ ts, 0 ≤ t.due ∧ t.due ≤ 9007200254740992
def nextC : Con where
  X := ClkX
  Y := Unit
  args x := [.pointer (some ⟨x.b, 0, none⟩)]
  pre x := [clkA x.b x.now x.row, x.row.A]
  cond x := isTs x.ts x.row ∧ Bnd x.ts ∧ 0 ≤ x.now ∧ x.now ≤ 9007199254740992
  rdc _ _ := True
  rel _ _ := True
  val x _ := .returned (.tuple #[.int .i64 (nxtI x.now x.ts), .bool (nxtB x.ts)])
  post x _ := [clkA x.b x.now x.row, x.row.A]
def nextOv (_x : ClkX) (_F : Atom) : List (Nat × Nat × OH) := [(3, 4, .qo (ixQ 4)), (3, 6, .q [.ex 1 (.int .i64)])]
noncomputable def next_H (x : Con.X nextC) (F : Atom) : Hints where
  op := hk ((nextOv x F) ++ [(1, 3, OH.q [LH.atj (0 : Nat)]),   (3, 3, OH.q [LH.atj (0 : Nat)]),   (3, 10, OH.q [LH.atj (0 : Nat)])])
  inv := (fun _ _ _ => none) x F
  cut := (fun _ _ _ => none) x F
  ord := (fun _ => [])
set_option maxRecDepth 100000 in
theorem next_vc (x : ClkX) (F : Atom) (hc : Con.cond nextC x) (hr : Con.rdc nextC x F) :
  Same { block := x.b, off := (1 : Nat) } x.b ∧
    Br ((↑x.row.n : Int) == (0 : Int)) (Done nextC x F (Ending.returned (Value.tuple { toList := [Value.int IntKind.i64 (0 : Int), Value.bool false] })) [((0 : Nat), Atom.cells x.b [Value.int IntKind.i64 x.now, Value.slice x.row.a x.row.n x.row.cap] (59 : Nat)), ((1 : Nat), x.row.A), ((2 : Nat), F)])
      (true = true ∧ Same { block := x.b, off := (1 : Nat) } x.b ∧ QOpOk Try.prog (opIn Try.f12 (3 : Nat) (4 : Nat)) (ixQ (4 : Nat)) ∧ ∃ (x_1 : IxQX), [Value.slice x.row.a x.row.n x.row.cap, Value.int IntKind.i64 (0 : Int)] = [Value.slice (some { block := x_1.b, off := x_1.o }) x_1.len x_1.cap, Value.int IntKind.i64 x_1.n] ∧ ((0 : Int) ≤ x_1.n ∧ x_1.n < (↑x_1.len : Int)) ∧ ∃ (n : Int), Look x.row.A { block := x_1.b, off := x_1.o + x_1.n.toNat * (4 : Nat) + (2 : Nat) } (Value.int IntKind.i64 n) ∧ Same { block := x.b, off := (0 : Nat) } x.b ∧ ((-9223372036854775808 : Int) ≤ n - x.now ∧ n - x.now ≤ (9223372036854775807 : Int)) ∧ Done nextC x F (Ending.returned (Value.tuple { toList := [Value.int IntKind.i64 (if n - x.now > (0 : Int) then n - x.now else (0 : Int)), Value.bool true] })) [((0 : Nat), Atom.cells x.b [Value.int IntKind.i64 x.now, Value.slice x.row.a x.row.n x.row.cap] (59 : Nat)), ((1 : Nat), x.row.A), ((2 : Nat), F)]) := by
  obtain ⟨b, now, ts, row⟩ := x
  obtain ⟨⟨hrow, hn, h128, hsrt⟩, hbnd, h0, h1⟩ := hc
  dsimp only at hrow hn h128 hsrt hbnd h0 h1 ⊢
  refine ⟨⟨rfl, rfl⟩, br_intro (fun he => ⟨(), trivial, ?_, Ent.pick [0, 1, 2] rfl rfl⟩) (fun he => ?_)⟩
  · have : ts = [] := by
      have : row.n = 0 := by simpa using he
      exact List.eq_nil_of_length_eq_zero (by omega)
    subst this
    rfl
  · have hpos : 0 < row.n := by
      rcases Nat.eq_zero_or_pos row.n with h | h
      · rw [h] at he; simp at he
      · exact h
    obtain ⟨t, r, rfl⟩ : ∃ t r, ts = t :: r := by
      cases ts with
      | nil => simp at hn; omega
      | cons t r => exact ⟨t, r, rfl⟩
    obtain ⟨ht0, ht1⟩ := hbnd t (by simp)
    obtain ⟨b1, o1, ea⟩ := hrow.src.some hpos
    have hsr := hrow.srcd
    rw [ea] at hsr
    refine ⟨rfl, ⟨rfl, rfl⟩, ixq_ok 4 rfl rfl rfl rfl, ⟨b1, o1, row.n, row.cap, 0⟩, by rw [ea], by dsimp only; omega, t.due, srcd_enc (j := 0) (c := 2) hsr rfl (by decide) rfl, ⟨rfl, rfl⟩, by omega, (), trivial, ?_, Ent.pick [0, 1, 2] rfl rfl⟩
    have e : (if t.due - now > 0 then t.due - now else 0) = max 0 (t.due - now) := by split <;> omega
    simp only [nextC, nxtI, nxtB, e]
set_option maxRecDepth 100000 in
theorem next_ok : FnOk Try.prog 12 nextC :=
  fnOk (N := 23) (by kernel_rfl) Try.func12 rfl (by kernel_rfl) (fun _ => Nat.le_of_ble_eq_true rfl) next_H [] fun x F hc hr => Eq.mpr (by kernel_rfl) (next_vc x F hc hr)
end Go.Proofs.Ytmknmibmnidnoaa
