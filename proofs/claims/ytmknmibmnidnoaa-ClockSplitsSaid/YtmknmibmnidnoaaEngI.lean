/- The engine, part I: copy, make, clear, and append of zero elements, over owned rows. -/
import Derived.Test.YtmknmibmnidnoaaEngH
import Derived.Laws.MakeOwn
import Derived.Laws.Externs
import Derived.Lib.Overlaps
set_option linter.all false
namespace Go.Proofs.Ytmknmibmnidnoaa
open Go
/-- 'n' elements of zero cells. -/
def zeros (z : List Value) (n : Nat) : List Value := (List.replicate n z).flatten
theorem zeros_length (z : List Value) (n : Nat) : (zeros z n).length = n * z.length := by unfold zeros; simp
theorem zeros_one (v : Value) (n : Nat) : zeros [v] n = List.replicate n v := by
  unfold zeros
  induction n with
  | zero => rfl
  | succ n ih => simp [List.replicate_succ, ih]
theorem zeros_succ (z : List Value) (n : Nat) : zeros z (n + 1) = z ++ zeros z n := by unfold zeros; simp [List.replicate_succ]
theorem zeros_get (z : List Value) (hz : z ≠ []) : ∀ (n i : Nat), i < n * z.length → (zeros z n)[i]? = z[i % z.length]? := by
  have hp : 0 < z.length := List.length_pos_iff.2 hz
  intro n
  induction n with
  | zero => intro i h; omega
  | succ n ih =>
    intro i h
    rw [zeros_succ]
    by_cases hi : i < z.length
    · rw [List.getElem?_append_left hi, Nat.mod_eq_of_lt hi]
    · rw [List.getElem?_append_right (by omega), ih _ (by rw [Nat.succ_mul] at h; omega)]
      have : i % z.length = (i - z.length) % z.length := Nat.mod_eq_sub_mod (by omega)
      rw [this]
theorem zeroCells_list (z : Array Value) (n : Nat) (hz : z.size ≠ 0) : (Builtin.zeroCells z n).toList = zeros z.toList n := by
  have hz' : z.toList ≠ [] := fun e => hz (by rw [← Array.length_toList, e]; rfl)
  refine List.ext_getElem? fun i => ?_
  have hlen : (Builtin.zeroCells z n).toList.length = n * z.size := by rw [Array.length_toList, size_zeroCells]
  by_cases hi : i < n * z.size
  · rw [zeros_get _ hz' n i (by simpa using hi)]
    have hm : i % z.size < z.size := Nat.mod_lt _ (by omega)
    simp [Builtin.zeroCells, hi, hm, getElem!_pos]
  · rw [List.getElem?_eq_none (by omega), List.getElem?_eq_none (by rw [zeros_length]; simp; omega)]
section
variable {P : Program}
structure CpX where
  b : Nat
  vs : List Value
  t : TypeId
  o : Nat
  dl : Nat
  dc : Nat
  a : Option Addr
  sl : Nat
  sc : Nat
  ys : List Value
  own : Bool
/-- copy(d, s): 'd' a window on an owned block; 's' read elsewhere, or a window on the same block. -/
def cpC (k : Nat) : Con where
  X := CpX
  Y := Unit
  args x := [.slice (some ⟨x.b, x.o, none⟩) x.dl x.dc, .slice x.a x.sl x.sc]
  pre x := [.cells x.b x.vs x.t]
  cond x := x.ys.length = min x.sl x.dl * k ∧ x.o + x.ys.length ≤ x.vs.length ∧ (∀ u ∈ x.ys, u.oneCell' = true) ∧ (x.a = none → x.ys = []) ∧
    (x.own = true → ∃ o2, x.a = some ⟨x.b, o2, none⟩ ∧ ∀ j u, x.ys[j]? = some u → x.vs[o2 + j]? = some u)
  rdc x F := x.own = false → ∀ a, x.a = some a → Seg F a x.ys
  rel _ _ := True
  val x _ := .returned (.int .i64 (min x.sl x.dl : Nat))
  post x _ := [.cells x.b (x.vs.take x.o ++ x.ys ++ x.vs.drop (x.o + x.ys.length)) x.t]
  rmono _ _ _ hs h ho a ha := (h ho a ha).sub hs
theorem copy_ok {o : Oper} {d s : Operand} {t t' e : TypeId} {inf : TypeInfo} (k : Nat) (ho : o.op = .call { callee := .builtin .copy, args := #[d, s], argTypes := #[t, t'] })
    (ht : P.underlying t = some (.slice e)) (hi : P.info? e = some inf) (hk : inf.size = k) : OpOk P o (cpC k) := by
  refine ⟨fun x F I w ρ ha hc hr hs => ?_⟩
  obtain ⟨b, vs, ty, off, dl, dc, a, sl, sc, ys, own⟩ := x
  obtain ⟨hyl, hfit, hy1, hnil, hown⟩ := hc
  dsimp only at hyl hfit hy1 hnil hown
  simp only [ho, Op.operands, Call.operands, cpC] at ha
  have ha2 : ρ d = .slice (some ⟨b, off, none⟩) dl dc ∧ ρ s = .slice a sl sc := by simpa using ha
  obtain ⟨hd1, hs1⟩ := ha2
  have hblk : w.heap[b]? = some (.cells ⟨vs⟩ ty (0, 0)) := hs.cells (j := 0) rfl
  have hst := run_storeCells_at P b off ty ys 0 ⟨vs⟩ w hblk (by simpa using hfit) hy1
  simp only [Nat.add_zero] at hst
  have hrd : (Builtin.firstCells inf.size (min sl dl) (.slice a sl sc)).run P w = .ok ys.toArray w := by
    cases a with
    | none =>
      have := hnil rfl
      subst this
      simp [Builtin.firstCells]
    | some ad =>
      refine run_firstCells_some (P := P) w inf.size (min sl dl) ad sl sc ys (by rw [hk]; exact hyl) fun j u hj => ?_
      cases own with
      | true =>
        obtain ⟨o2, ha2, hseg⟩ := hown rfl
        simp only [Option.some.injEq] at ha2
        subst ha2
        rw [addr_add, cell_cells (b := b) ⟨rfl, rfl⟩ hblk]
        exact hseg j u hj
      | false =>
        have hseg : Seg F ad ys := hr rfl ad rfl
        exact Seg.cell hs (j := 1) (show Seg (gt (ofL [_, F]) 1) ad ys from hseg) j u hj
  refine ⟨(), I, w.setRow b ⟨vs.take off ++ ys ++ vs.drop (off + ys.length)⟩, _, trivial, ?_, rfl, Imm.le_refl I, ?_, ⟨rfl, rfl⟩⟩
  · simp [execOp, ho, resolve, invoke, builtin, hd1, hs1, Builtin.copy_, run_underlying ht, Builtin.lenOf, sizeOf, typeInfo, hi, hrd, hst, goInt]
  · have := hs.setRow (j := 0) (b := b) (vs := vs) (t := ty) (vs' := vs.take off ++ ys ++ vs.drop (off + ys.length)) rfl
    simpa [cpC, upd0] using this

structure MkX where
  n : Int
  c : Int
/-- make([]T, n, c). 'z': T's zero cells. -/
def mkC (e : TypeId) (z : List Value) (bytes : Nat) : Con where
  X := MkX
  Y := Nat
  args x := [.int .i64 x.n, .int .i64 x.c]
  pre _ := []
  cond x := 0 ≤ x.n ∧ x.n ≤ x.c ∧ x.c * bytes ≤ 281474976710656 ∧ x.c ≤ 9223372036854775807
  rdc _ _ := True
  rel _ _ := True
  val x b := .returned (.slice (some ⟨b, 0, none⟩) x.n.toNat x.c.toNat)
  post x b := [.cells b (zeros z x.c.toNat) e]
theorem make_ok {o : Oper} {l c : Operand} {t e : TypeId} {inf : TypeInfo} {zv : Value} (z : List Value) (bytes : Nat) (ho : o.op = .makeSlice t l c)
    (ht : P.underlying t = some (.slice e)) (hi : P.info? e = some inf) (hz : inf.zero = some zv) (hzc : zv.cells = ⟨z⟩) (hk : inf.size = z.length) (hk0 : z ≠ []) (hb : inf.bytes = bytes) : OpOk P o (mkC e z bytes) := by
  refine ⟨fun x F I w ρ ha hc hr hs => ?_⟩
  obtain ⟨n, c'⟩ := x
  obtain ⟨h0, hnc, hby, h63⟩ := hc
  dsimp only at h0 hnc hby h63
  simp only [ho, Op.operands, mkC] at ha
  have ha2 : ρ l = .int .i64 n ∧ ρ c = .int .i64 c' := by simpa using ha
  obtain ⟨hl1, hc1⟩ := ha2
  subst hb
  have hzl : zv.cells.size ≠ 0 := by rw [hzc]; simpa using hk0
  have hcells : madeCells zv.cells (c'.toNat * inf.size) = Builtin.zeroCells zv.cells c'.toNat := by
    have : zv.cells.size = inf.size := by rw [hzc, hk]; rfl
    unfold Builtin.zeroCells madeCells
    rw [this]
  have hrun := run_make (P := P) w t e inf zv ht hi hz .i64 .i64 n c' h0 hnc (by rw [Int.mul_comm]; exact hby) h63
  refine ⟨w.heap.size, I, w.alloc (.cells (Builtin.zeroCells zv.cells c'.toNat) e), _, trivial, ?_, rfl, Imm.le_refl I, ?_, ⟨rfl, rfl⟩⟩
  · rw [hcells] at hrun
    simp [execOp, ho, hl1, hc1, hrun, Sem.run]
  · have := (hs.new 1 (.cells (Builtin.zeroCells zv.cells c'.toNat) e))
    have e1 : (Builtin.zeroCells zv.cells c'.toNat).toList = zeros z c'.toNat := by rw [zeroCells_list _ _ hzl, hzc]
    have h2 : Sat I [(0, F), (1, .cells w.heap.size (zeros z c'.toNat) e)] (w.alloc (.cells (Builtin.zeroCells zv.cells c'.toNat) e)) := by
      rw [← e1]; exact this
    exact Sat.pick [1, 0] rfl rfl h2
structure ClX where
  b : Nat
  vs : List Value
  t : TypeId
  o : Nat
  n : Nat
  c : Nat
/-- clear(s), 's' a window on an owned block. -/
def clC (z : List Value) : Con where
  X := ClX
  Y := Unit
  args x := [.slice (some ⟨x.b, x.o, none⟩) x.n x.c]
  pre x := [.cells x.b x.vs x.t]
  cond x := x.o + x.n * z.length ≤ x.vs.length
  rdc _ _ := True
  rel _ _ := True
  val _ _ := .returned (.tuple #[])
  post x _ := [.cells x.b (x.vs.take x.o ++ zeros z x.n ++ x.vs.drop (x.o + x.n * z.length)) x.t]
theorem zeros_mem {z : List Value} {n : Nat} {u : Value} (h : u ∈ zeros z n) : u ∈ z := by
  unfold zeros at h
  obtain ⟨l, hl, hu⟩ := List.mem_flatten.1 h
  rw [List.mem_replicate] at hl
  rw [← hl.2]; exact hu
theorem clear_ok {o : Oper} {s : Operand} {t e : TypeId} {inf : TypeInfo} {zv : Value} (z : List Value) (ho : o.op = .call { callee := .builtin .clear, args := #[s], argTypes := #[t] })
    (ht : P.underlying t = some (.slice e)) (hi : P.info? e = some inf) (hz : inf.zero = some zv) (hzc : zv.cells = ⟨z⟩) (hk0 : z ≠ []) (hz1 : ∀ u ∈ z, u.oneCell' = true) : OpOk P o (clC z) := by
  refine ⟨fun x F I w ρ ha hc hr hs => ?_⟩
  obtain ⟨b, vs, ty, off, n, c⟩ := x
  dsimp only [clC] at hc
  simp only [ho, Op.operands, Call.operands, clC] at ha
  have hs1 : ρ s = .slice (some ⟨b, off, none⟩) n c := by simpa using ha
  have hblk : w.heap[b]? = some (.cells ⟨vs⟩ ty (0, 0)) := hs.cells (j := 0) rfl
  have hzl : zv.cells.size ≠ 0 := by rw [hzc]; simpa using hk0
  have hst := run_storeCells_at P b off ty (zeros z n) 0 ⟨vs⟩ w hblk (by rw [zeros_length]; simpa using hc) (fun u hu => hz1 u (zeros_mem hu))
  simp only [Nat.add_zero] at hst
  have hpost := hs.setRow (j := 0) (b := b) (vs := vs) (t := ty) (vs' := vs.take off ++ zeros z n ++ vs.drop (off + n * z.length)) rfl
  refine ⟨(), I, w.setRow b ⟨vs.take off ++ zeros z n ++ vs.drop (off + n * z.length)⟩, _, trivial, ?_, rfl, Imm.le_refl I, by simpa [clC, upd0] using hpost, ⟨rfl, rfl⟩⟩
  have e1 : (Builtin.zeroCells zv.cells n).toList = zeros z n := by rw [zeroCells_list _ _ hzl, hzc]
  by_cases hn : n = 0
  · subst hn
    have e2 : w.setRow b ⟨vs.take off ++ zeros z 0 ++ vs.drop (off + 0 * z.length)⟩ = w := by
      have : vs.take off ++ zeros z 0 ++ vs.drop (off + 0 * z.length) = vs := by simp [zeros]
      rw [this]; exact setRow_self w b ⟨vs⟩ ty (0, 0) hblk
    rw [e2]
    simp [execOp, ho, resolve, invoke, builtin, hs1, Builtin.clear_, run_underlying ht]
  · obtain ⟨m, rfl⟩ : ∃ m, n = m + 1 := ⟨n - 1, by omega⟩
    rw [zeros_length] at hst
    simp [execOp, ho, resolve, invoke, builtin, hs1, Builtin.clear_, run_underlying ht, zeroValue, typeInfo, hi, hz, e1, hst]
structure ZaX where
  a : Addr
  n : Nat
  c : Nat
  m : Int
  ys : List Value
structure BlkY where
  b : Nat
  cap : Nat
  sp : List Value
/-- append(s, make([]T, m)...) where there is no room: a new row. -/
def zaC (e : TypeId) (z : List Value) (bytes : Nat) : Con where
  X := ZaX
  Y := BlkY
  args x := [.slice (some x.a) x.n x.c, .int .i64 x.m]
  pre _ := []
  cond x := 0 < x.m ∧ x.c < x.n + x.m.toNat ∧ x.ys.length = x.n * z.length ∧ (x.n + x.m.toNat) * bytes ≤ 140737488355328 ∧ x.n + x.m.toNat ≤ 9223372036854775807
  rdc x F := Seg F x.a x.ys
  rel x y := (x.ys ++ zeros z x.m.toNat ++ y.sp).length = y.cap * z.length ∧ x.n + x.m.toNat ≤ y.cap
  val x y := .returned (.slice (some ⟨y.b, 0, none⟩) (x.n + x.m.toNat) y.cap)
  post x y := [.cells y.b (x.ys ++ zeros z x.m.toNat ++ y.sp) e]
  rmono _ _ _ hs h := h.sub hs
theorem appendz_ok {o : Oper} {s x : Operand} {t ti e : TypeId} {inf : TypeInfo} {zv : Value} {kk : IntKind} (z : List Value) (bytes : Nat) (ho : o.op = .call { callee := .builtin .append, args := #[s, x], argTypes := #[t, ti] })
    (ht : P.underlying t = some (.slice e)) (hti : P.underlying ti = some (.int kk)) (hi : P.info? e = some inf) (hz : inf.zero = some zv) (hzc : zv.cells = ⟨z⟩) (hk : inf.size = z.length) (hk0 : z ≠ []) (hb : inf.bytes = bytes) : OpOk P o (zaC e z bytes) := by
  refine ⟨fun X F I w ρ ha hc hr hs => ?_⟩
  obtain ⟨ad, n, c, m, ys⟩ := X
  obtain ⟨h0, hlt, hyl, hby, h63⟩ := hc
  dsimp only at h0 hlt hyl hby h63
  simp only [ho, Op.operands, Call.operands, zaC] at ha
  have ha2 : ρ s = .slice (some ad) n c ∧ ρ x = .int .i64 m := by simpa using ha
  obtain ⟨hs1, hx1⟩ := ha2
  subst hb
  obtain ⟨mn, rfl⟩ : ∃ mn : Nat, m = mn := ⟨m.toNat, by omega⟩
  simp only [Int.toNat_natCast] at hlt hby h63
  have hzl : zv.cells.size ≠ 0 := by rw [hzc]; simpa using hk0
  have hzs : zv.cells.size = z.length := by rw [hzc]; rfl
  have hsp : 0 < z.length := List.length_pos_iff.2 hk0
  have hw1 : IntKind.i64.wrap (mn : Int) = mn := wrap_in (i := .i64) (by simp only [inR]; omega)
  have hb1 : mn * inf.bytes ≤ 140737488355328 := Nat.le_trans (Nat.mul_le_mul_right _ (by omega)) hby
  have hb2 : ¬ (281474976710656 < (mn : Int) * inf.bytes) := by
    have : ((mn * inf.bytes : Nat) : Int) ≤ 140737488355328 := by omega
    rw [Int.natCast_mul] at this
    omega
  have hg := growslice_fits hlt hby
  have hcell : ∀ i u, ys[i]? = some u → w.drew.cell? (ad.add i) = some u := fun i u hi => Seg.cell hs (j := 0) (show Seg F ad ys from hr) i u hi
  have hfo := run_firstCells_some (P := P) w.drew inf.size n ad n c ys (by rw [hk]; exact hyl) hcell
  have hge := grownCap_ge w (n + mn) c e
  have e1 : (Builtin.zeroCells zv.cells mn).toList = zeros z mn := by rw [zeroCells_list _ _ hzl, hzc]
  let cap := grownCap w (n + mn) c e
  refine ⟨⟨w.heap.size, cap, (Builtin.zeroCells zv.cells (cap - (n + mn))).toList⟩, I,
    w.drew.alloc (.cells (ys.toArray ++ Builtin.zeroCells zv.cells mn ++ Builtin.zeroCells zv.cells (cap - (n + mn))) e), _, ⟨?_, ?_⟩, ?_, rfl, Imm.le_refl I, ?_, ⟨rfl, rfl⟩⟩
  · simp only [Int.toNat_natCast]
    · simp only [List.length_append, zeros_length, hyl, Array.length_toList, size_zeroCells, hzs, ← Nat.add_mul]
      congr 1
      omega
  · simpa using hge
  · have h1 : ¬ (n + mn ≤ c) := by omega
    have h2 : ¬ (9223372036854775807 < ((n : Int) + (mn : Int))) := by omega
    have h3 : ¬ (281474976710656 < Builtin.nextslicecap (n + mn) c * inf.bytes) := by omega
    have h4 : ¬ ((mn : Int) < 0) := by omega
    have hm0 : ¬ (mn * inf.size = 0) := by
      intro h
      rcases Nat.mul_eq_zero.1 h with h | h <;> omega
    simp [execOp, ho, resolve, invoke, builtin, hs1, hx1, Builtin.append_, run_underlying ht, run_underlying hti, sizeOf, typeInfo, zeroValue, hi, hz, asInt, asIntOf, hw1, hb2, h1, h2, h3, h4, hm0, Question.forced, hfo, newRow, grownCap]
    exact ⟨rfl, rfl⟩
  · have := hs.alloc 1 (ys.toArray ++ Builtin.zeroCells zv.cells mn ++ Builtin.zeroCells zv.cells (cap - (n + mn))) e
    have e2 : (ys.toArray ++ Builtin.zeroCells zv.cells mn ++ Builtin.zeroCells zv.cells (cap - (n + mn))).toList = ys ++ zeros z mn ++ (Builtin.zeroCells zv.cells (cap - (n + mn))).toList := by simp [← e1]
    have h2 : Sat I [(0, F), (1, .cells w.heap.size (ys ++ zeros z mn ++ (Builtin.zeroCells zv.cells (cap - (n + mn))).toList) e)] (w.drew.alloc (.cells (ys.toArray ++ Builtin.zeroCells zv.cells mn ++ Builtin.zeroCells zv.cells (cap - (n + mn))) e)) := by
      rw [← e2]; exact this
    exact Sat.pick [1, 0] rfl rfl h2
theorem OpOk.conseq {o : Oper} {C C' : Con} (h' : OpOk P o C')
    (h : ∀ x F, C.cond x → C.rdc x F → ∃ x', C'.cond x' ∧ C'.rdc x' F ∧ C.args x = C'.args x' ∧ C.pre x = C'.pre x' ∧
      ∀ y', C'.rel x' y' → ∃ y, C.rel x y ∧ C'.val x' y' = C.val x y ∧ C'.post x' y' = C.post x y) : OpOk P o C := by
  refine ⟨fun x F I w ρ ha hc hr hs => ?_⟩
  obtain ⟨x', hc', hr', ea, ep, hy⟩ := h x F hc hr
  rw [ea] at ha
  rw [ep] at hs
  obtain ⟨y', J, w', v, hrel, hrun, hv, hle, hs', he⟩ := h'.h x' F I w ρ ha hc' hr' hs
  obtain ⟨y, h1, h2, h3⟩ := hy y' hrel
  exact ⟨y, J, w', v, h1, hrun, by rw [← h2]; exact hv, hle, by rw [← h3]; exact hs', he⟩
/-- append(s, xs...) of at least one: the row's block stands open. -/
def apB (e : TypeId) (k bytes : Nat) : Con where
  X := ApX
  Y := BlkY
  args x := [.slice x.r.a x.r.n x.r.cap, .slice x.a x.m x.c]
  pre x := [x.r.A]
  cond x := IsRow e k x.cs x.r ∧ x.ys.length = x.m * k ∧ (∀ u ∈ x.ys, u.oneCell' = true) ∧ (x.r.n + x.m) * bytes ≤ 140737488355328 ∧ x.r.n + x.m ≤ 9223372036854775807 ∧ 0 < x.m ∧ (x.a = none → x.m = 0)
  rdc x F := ∀ a, x.a = some a → Seg F a x.ys
  rel x y := (x.cs ++ x.ys ++ y.sp).length = y.cap * k ∧ x.r.n + x.m ≤ y.cap
  val x y := .returned (.slice (some ⟨y.b, 0, none⟩) (x.r.n + x.m) y.cap)
  post x y := [.cells y.b (x.cs ++ x.ys ++ y.sp) e]
  rmono _ _ _ hs h a ha := (h a ha).sub hs
theorem appendB_ok {o : Oper} {e : TypeId} {k bytes : Nat} (h : OpOk P o (apC e k bytes)) : OpOk P o (apB e k bytes) := by
  refine h.conseq fun x F hc hr => ⟨x, ⟨hc.1, hc.2.1, hc.2.2.1, hc.2.2.2.1, hc.2.2.2.2.1, fun e => absurd (hc.2.2.2.2.2.2 e) (by have := hc.2.2.2.2.2.1; omega)⟩, hr, rfl, rfl, fun r hrel => ?_⟩
  obtain ⟨hrow, hn, _⟩ := hrel
  have hm : 0 < x.m := hc.2.2.2.2.2.1
  cases hrow with
  | nil h => simp only at hn; omega
  | blk b n cap sp hl hs hle =>
    simp only at hn
    subst hn
    exact ⟨⟨b, cap, sp⟩, ⟨hs, hle⟩, rfl, rfl⟩
structure OvX where
  b1 : Nat
  vs1 : List Value
  t1 : TypeId
  o1 : Nat
  l1 : Nat
  c1 : Nat
  b2 : Nat
  vs2 : List Value
  t2 : TypeId
  o2 : Nat
  l2 : Nat
  c2 : Nat
/-- slices.overlaps at two owned blocks: no. -/
def ovC (f : FuncId) : Con where
  X := OvX
  Y := Unit
  args x := [.func (.func f) #[] #[], .slice (some ⟨x.b1, x.o1, none⟩) x.l1 x.c1, .slice (some ⟨x.b2, x.o2, none⟩) x.l2 x.c2]
  pre x := [.cells x.b1 x.vs1 x.t1, .cells x.b2 x.vs2 x.t2]
  cond x := x.vs2 ≠ []
  rdc _ _ := True
  rel _ _ := True
  val _ _ := .returned (.bool false)
  post x _ := [.cells x.b1 x.vs1 x.t1, .cells x.b2 x.vs2 x.t2]
theorem overlaps_ok {o : Oper} {x y : Operand} {f : FuncId} {fn : Func} {t tr e : TypeId} {ts : Array TypeId} {inf : TypeInfo} (ho : o.op = .call { callee := .value (.func f), args := #[x, y], argTypes := ts })
    (hf : P.funcs[f]? = some fn) (hname : (fn.name == "runtime.NumGoroutine") = false) (hb : fn.body.isNone = true) (hn : Extern.findNext fn = none)
    (he : Extern.find fn = some (Extern.SlicesOverlaps.overlaps #[t, t] #[tr])) (ht : P.underlying t = some (.slice e)) (hi : P.info? e = some inf) : OpOk P o (ovC f) := by
  refine ⟨fun X F I w ρ ha hc hr hs => ?_⟩
  obtain ⟨b1, vs1, t1, o1, l1, c1, b2, vs2, t2, o2, l2, c2⟩ := X
  dsimp only [ovC] at hc
  simp only [ho, Op.operands, Call.operands, ovC] at ha
  have ha2 : ρ (.func f) = .func (.func f) #[] #[] ∧ ρ x = .slice (some ⟨b1, o1, none⟩) l1 c1 ∧ ρ y = .slice (some ⟨b2, o2, none⟩) l2 c2 := by simpa using ha
  obtain ⟨hf1, hx1, hy1⟩ := ha2
  have hB1 : w.heap[b1]? = some (.cells ⟨vs1⟩ t1 (0, 0)) := hs.cells (j := 0) rfl
  have hB2 : w.heap[b2]? = some (.cells ⟨vs2⟩ t2 (0, 0)) := hs.cells (j := 1) rfl
  have hne : b1 ≠ b2 := by
    obtain ⟨g, g1, g2, _⟩ := hs.own
    have h0 : g 0 b1 := (g1 0).1
    have h1 : g 1 b2 := (g1 1).1
    intro e
    subst e
    have := g2 _ _ _ h0 h1
    omega
  have hsz : ∀ w, (Go.sizeOf e).run P w = .ok (P.cellsOf e) w := fun w => run_sizeOf w hi
  have hov := Lib.run_overlaps_apart (P := P) w t tr e ht (P.cellsOf e) hsz ⟨b1, o1, none⟩ ⟨b2, o2, none⟩ l1 c1 l2 c2 hne t1 t2 vs1.length vs2.length
    (by unfold World.shape?; simp [hB1]) (by unfold World.shape?; simp [hB2]) (by simpa using hc) (frozen_cells hB1) (frozen_cells hB1)
  have hcall := run_callFunc_extern (P := P) hf hname hb hn he #[.slice (some ⟨b1, o1, none⟩) l1 c1, .slice (some ⟨b2, o2, none⟩) l2 c2] w
  refine ⟨(), I, w, _, trivial, ?_, rfl, Imm.le_refl I, hs, Env.refl w⟩
  rw [hov] at hcall
  simp [execOp, ho, resolve, Deferred.ofValue, invoke, hf1, hx1, hy1, hcall]
end
end Go.Proofs.Ytmknmibmnidnoaa
