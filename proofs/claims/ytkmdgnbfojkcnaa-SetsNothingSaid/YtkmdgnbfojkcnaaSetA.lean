/- Maps of ints as sets: look-up, store; ranging over one. -/
import Derived.Test.YtkmdgnbfojkcnaaChoN
import Derived.Maps.RangeRun
set_option linter.all false
namespace Go.Proofs.Ytkmdgnbfojkcnaa
open Go
def gK (l : List Int) : List (Int × Value) := l.map fun k => (k, .bool true)
def eK (l : List Int) : List (Int × Value) := l.map fun k => (k, .int .i64 k)
theorem get_map (f : Int → Value) (k : Int) (l : List Int) : getK (l.map fun k => (k, f k)) k = bif memB l k then some (f k) else none := by
  have hk : keysOf (l.map fun k => (k, f k)) = l := by
    unfold keysOf
    rw [List.map_map]
    exact List.map_id' l
  unfold getK
  rcases fk_spec k (l.map fun k => (k, f k)) 0 with ⟨h1, h2⟩ | ⟨j, v, h1, h2, h3⟩
  · have := memB_keys h2
    rw [hk] at this
    rw [h1, this]; rfl
  · have hm := List.mem_of_getElem? h2
    obtain ⟨q, hq, e⟩ := List.mem_map.1 hm
    simp only [Prod.mk.injEq] at e
    obtain ⟨rfl, rfl⟩ := e
    rw [h1, memB_iff.2 hq]; rfl
theorem put_map (f : Int → Value) (k : Int) (l : List Int) : putK (l.map fun k => (k, f k)) k (f k) = (add1 l k).map fun k => (k, f k) := by
  have hk : keysOf (l.map fun k => (k, f k)) = l := by
    unfold keysOf
    rw [List.map_map]
    exact List.map_id' l
  unfold putK add1
  rcases fk_spec k (l.map fun k => (k, f k)) 0 with ⟨h1, h2⟩ | ⟨j, v, h1, h2, h3⟩
  · have := memB_keys h2
    rw [hk] at this
    rw [h1, this]
    simp
  · have hm := List.mem_of_getElem? h2
    obtain ⟨q, hq, e⟩ := List.mem_map.1 hm
    simp only [Prod.mk.injEq] at e
    obtain ⟨rfl, rfl⟩ := e
    rw [h1, memB_iff.2 hq]
    dsimp only
    rw [Nat.zero_add, cond_true]
    refine List.ext_getElem? fun i => ?_
    rw [List.getElem?_set]
    have hjl := (List.getElem?_eq_some_iff.1 h2).1
    by_cases e : j = i
    · subst e
      rw [h2, if_pos rfl, if_pos hjl]
    · simp [e]
section
variable {P : Program}
structure GkX where
  b : Nat
  l : List Int
  k : Int
/-- gone[k] -/
def lgC : Con where
  X := GkX
  Y := Unit
  args x := [.map (some x.b), .int .i64 x.k]
  pre _ := []
  cond _ := True
  rdc x F := MapIn F x.b (gK x.l)
  rel _ _ := True
  val x _ := .returned (.bool (memB x.l x.k))
  post _ _ := []
  rmono _ _ _ h hk := hk.sub h
theorem lg_ok {o : Oper} {t kt e : TypeId} {m k : Operand} {inf : TypeInfo} (ho : o.op = .lookup t m k false) (ht : P.underlying t = some (.map kt e)) (hk : P.underlying kt = some (.int .i64)) (hi : P.info? e = some inf) (hz : inf.zero = some (.bool false)) : OpOk P o lgC := by
  refine ⟨fun q F I w ρ ha hc hr hs => ?_⟩
  obtain ⟨y, J, w', v, h1, h2, h3, h4⟩ := (lk_ok (P := P) (.bool false) false ho ht hk hi hz).h ⟨q.b, gK q.l, q.k⟩ F I w ρ ha trivial hr hs
  refine ⟨(), J, w', v, trivial, h2, ?_, h4⟩
  rw [← h3]
  show Ending.returned (.bool (memB q.l q.k)) = .returned ((getK (gK q.l) q.k).getD (.bool false))
  unfold gK
  rw [get_map (fun _ => .bool true)]
  cases memB q.l q.k <;> rfl
/-- gone[k] = true -/
def sgC : Con where
  X := GkX
  Y := Unit
  args x := [.map (some x.b), .int .i64 x.k, .bool true]
  pre x := [mpA x.b (gK x.l)]
  cond _ := True
  rdc _ _ := True
  rel _ _ := True
  val _ _ := .returned undef
  post x _ := [mpA x.b (gK (add1 x.l x.k))]
theorem sg_ok {o : Oper} {t kt e : TypeId} {m k x : Operand} (ho : o.op = .mapUpdate t m k x) (ht : P.underlying t = some (.map kt e)) (hk : P.underlying kt = some (.int .i64)) : OpOk P o sgC := by
  refine ⟨fun q F I w ρ ha hc hr hs => ?_⟩
  have := (mu_ok (P := P) ho ht hk).h ⟨q.b, gK q.l, q.k, .bool true⟩ F I w ρ ha trivial trivial hs
  have e1 : putK (gK q.l) q.k (.bool true) = gK (add1 q.l q.k) := put_map (fun _ => .bool true) q.k q.l
  rw [show muC.post ⟨q.b, gK q.l, q.k, .bool true⟩ = fun _ => [mpA q.b (gK (add1 q.l q.k))] from by funext u; show [mpA q.b (putK (gK q.l) q.k (.bool true))] = _; rw [e1]] at this
  exact this
/-- entered[k] = k -/
def seC : Con where
  X := GkX
  Y := Unit
  args x := [.map (some x.b), .int .i64 x.k, .int .i64 x.k]
  pre x := [mpA x.b (eK x.l)]
  cond _ := True
  rdc _ _ := True
  rel _ _ := True
  val _ _ := .returned undef
  post x _ := [mpA x.b (eK (add1 x.l x.k))]
theorem se_ok {o : Oper} {t kt e : TypeId} {m k x : Operand} (ho : o.op = .mapUpdate t m k x) (ht : P.underlying t = some (.map kt e)) (hk : P.underlying kt = some (.int .i64)) : OpOk P o seC := by
  refine ⟨fun q F I w ρ ha hc hr hs => ?_⟩
  have := (mu_ok (P := P) ho ht hk).h ⟨q.b, eK q.l, q.k, .int .i64 q.k⟩ F I w ρ ha trivial trivial hs
  have e1 : putK (eK q.l) q.k (.int .i64 q.k) = eK (add1 q.l q.k) := put_map (fun k => .int .i64 k) q.k q.l
  rw [show muC.post ⟨q.b, eK q.l, q.k, .int .i64 q.k⟩ = fun _ => [mpA q.b (eK (add1 q.l q.k))] from by funext u; show [mpA q.b (putK (eK q.l) q.k (.int .i64 q.k))] = _; rw [e1]] at this
  exact this
/-- An iterator over a map of 'n' entries, of which some have been seen. -/
def itA (r b n : Nat) (seen : List Nat) : Atom := .obj r (.mapIter (some b) n ⟨seen⟩ n)
structure RgX where
  b : Nat
  kv : List (Int × Value)
def rgC : Con where
  X := RgX
  Y := Nat
  args x := [.map (some x.b)]
  pre _ := []
  cond _ := True
  rdc x F := MapIn F x.b x.kv
  rel _ _ := True
  val _ y := .returned (.pointer (some ⟨y, 0, none⟩))
  post x y := [itA y x.b x.kv.length []]
  rmono _ _ _ h hk := hk.sub h
theorem rg_ok {o : Oper} {t kt e : TypeId} {m : Operand} (ho : o.op = .range t m) (ht : P.underlying t = some (.map kt e)) : OpOk P o rgC := by
  refine ⟨fun q F I w ρ ha hc hr hs => ?_⟩
  obtain ⟨b, kv⟩ := q
  simp only [ho, Op.operands, rgC] at ha
  have hm : ρ m = .map (some b) := by simpa using ha
  have hb : w.heap[b]? = some (.map ⟨mEl 0 kv⟩ kv.length) := hs.mapIn (j := 0) hr
  refine ⟨w.heap.size, I, { w with heap := w.heap.push (.mapIter (some b) kv.length #[] kv.length) }, _, trivial, .inl ?_, rfl, Imm.le_refl I, ?_, ⟨rfl, rfl⟩⟩
  · simp [execOp, ho, hm, Instr.range, run_underlying ht, MapKept.run_getObj_map hb, Result.andThen, newObj, Sem.run]
  · have h2 := Sat.new hs 1 (.mapIter (some b) kv.length #[] kv.length)
    exact Sat.pick (S := updS (ofL [F]) 1 (mkAtom w.heap.size (.mapIter (some b) kv.length #[] kv.length))) [1, 0] rfl rfl h2
structure NxX where
  r : Nat
  b : Nat
  kv : List (Int × Value)
  seen : List Nat
structure NxY where
  go : Bool
  i : Nat
  vs : List Value
def nxC : Con where
  X := NxX
  Y := NxY
  args x := [.pointer (some ⟨x.r, 0, none⟩)]
  pre x := [itA x.r x.b x.kv.length x.seen]
  cond _ := True
  rdc x F := MapIn F x.b x.kv
  rel x y := (y.go = false ∧ ∀ i, i < x.kv.length → i ∈ x.seen) ∨ (y.go = true ∧ y.i < x.kv.length ∧ y.i ∉ x.seen)
  val _ y := .returned (.tuple ⟨.bool y.go :: y.vs⟩)
  post x y := [itA x.r x.b x.kv.length (bif y.go then x.seen ++ [y.i] else x.seen)]
  rmono _ _ _ h hk := hk.sub h
theorem nx_ok {o : Oper} {m : Operand} (ho : o.op = .next m false) : OpOk P o nxC := by
  refine ⟨fun q F I w ρ ha hc hr hs => ?_⟩
  obtain ⟨r, b, kv, seen⟩ := q
  replace hs : Sat I (ofL [itA r b kv.length seen, F]) w := hs
  simp only [ho, Op.operands, nxC] at ha
  have hm : ρ m = .pointer (some ⟨r, 0, none⟩) := by simpa using ha
  have hb : w.heap[b]? = some (.map ⟨mEl 0 kv⟩ kv.length) := hs.mapIn (j := 1) hr
  have hit : w.heap[r]? = some (.mapIter (some b) kv.length ⟨seen⟩ kv.length) := hs.obj (j := 0) rfl
  have hold : ∀ x ∈ (⟨mEl 0 kv⟩ : Array MapEntry).toList, x.born < kv.length := fun x hx => by
    obtain ⟨p, _, _, _, h⟩ := mEl_mem hx
    omega
  have hleft : ∀ e, e ∈ (leftOf ⟨mEl 0 kv⟩ ⟨seen⟩).toList ↔ e ∈ mEl 0 kv ∧ e.born ∉ seen := fun e => by
    unfold leftOf
    simp
  rcases run_next_at (P := P) w o.type r b kv.length kv.length ⟨seen⟩ ⟨mEl 0 kv⟩ kv.length hit hb hold (Nat.le_refl _) with ⟨h0, hrun⟩ | ⟨e, he, w1, hw1, hrun⟩
  · refine ⟨⟨false, 0, []⟩, I, w, _, .inl ⟨rfl, fun i hi => ?_⟩, .inl ?_, rfl, Imm.le_refl I, hs, Env.refl w⟩
    · dsimp only at hi
      cases hmem : seen.contains i with
      | true => simpa using hmem
      | false =>
        exfalso
        have hne : i ∉ seen := by simpa using hmem
        have hg : (mEl 0 kv)[i]? = some ⟨.int .i64 kv[i].1, kv[i].2, 0 + i⟩ := by rw [mEl_get, List.getElem?_eq_getElem hi]; rfl
        have := (hleft _).2 ⟨List.mem_of_getElem? hg, by simpa using hne⟩
        have hz : (leftOf ⟨mEl 0 kv⟩ ⟨seen⟩).toList = [] := List.eq_nil_of_length_eq_zero (by rw [Array.length_toList]; exact h0)
        rw [hz] at this; cases this
    · simp [execOp, ho, hm, hrun, Result.andThen]
  · obtain ⟨h1, h2⟩ := (hleft e).1 he
    obtain ⟨p, _, _, _, h3⟩ := mEl_mem h1
    refine ⟨⟨true, e.born, [e.key, e.val]⟩, I, ChangeMaps.setBlock w1 r (.mapIter (some b) kv.length (#[].append ⟨seen⟩ |>.push e.born) kv.length), _, .inr ⟨rfl, by dsimp only; omega, h2⟩, .inl ?_, rfl, Imm.le_refl I, ?_, ?_⟩
    · simp [execOp, ho, hm, hrun, Result.andThen]
    · have hs1 : Sat I (ofL [itA r b kv.length seen, F]) w1 := by
        rcases hw1 with rfl | rfl
        · exact hs
        · exact hs.heap rfl
      have := Sat.setObj hs1 (j := 0) (b := r) (o := .mapIter (some b) kv.length ⟨seen⟩ kv.length) rfl (.mapIter (some b) kv.length ⟨seen ++ [e.born]⟩ kv.length)
      have e9 : ((#[] : Array Nat).append ⟨seen⟩ |>.push e.born) = ⟨seen ++ [e.born]⟩ := by apply Array.ext'; simp
      rw [e9]
      exact this
    · rcases hw1 with rfl | rfl <;> exact ⟨rfl, rfl⟩
structure ObjIn (F : Atom) (b : Nat) (o : Obj) : Prop where
  h : ∀ I h o', Cons I h → F.holds I h o' → h b = some o
structure EnX where
  r : Nat
  b : Nat
  kv : List (Int × Value)
  seen : List Nat
  i : Nat
  k : Int
  v : Value
def etC : Con where
  X := EnX
  Y := Unit
  args x := [.pointer (some ⟨x.r, 0, none⟩)]
  pre x := [itA x.r x.b x.kv.length (x.seen ++ [x.i])]
  cond x := x.kv[x.i]? = some (x.k, x.v)
  rdc x F := MapIn F x.b x.kv
  rel _ _ := True
  val x _ := .returned (.tuple #[.int .i64 x.k, x.v])
  post x _ := [itA x.r x.b x.kv.length (x.seen ++ [x.i])]
  rmono _ _ _ h hk := hk.sub h
theorem et_ok {o : Oper} {m : Operand} (ho : o.op = .entry m) : OpOk P o etC := by
  refine ⟨fun q F I w ρ ha hc hr hs => ?_⟩
  obtain ⟨r, b, kv, seen, i, k, v⟩ := q
  replace hs : Sat I (ofL [itA r b kv.length (seen ++ [i]), F]) w := hs
  replace hc : kv[i]? = some (k, v) := hc
  simp only [ho, Op.operands, etC] at ha
  have hm : ρ m = .pointer (some ⟨r, 0, none⟩) := by simpa using ha
  have hb : w.heap[b]? = some (.map ⟨mEl 0 kv⟩ kv.length) := hs.mapIn (j := 1) hr
  have hit : w.heap[r]? = some (.mapIter (some b) kv.length ⟨seen ++ [i]⟩ kv.length) := hs.obj (j := 0) rfl
  have hg : (mEl 0 kv)[i]? = some ⟨.int .i64 k, v, i⟩ := by rw [mEl_get, hc]; simp
  have e9 : (⟨seen ++ [i]⟩ : Array Nat) = (⟨seen⟩ : Array Nat).push i := by apply Array.ext'; simp
  rw [e9] at hit
  have hn : ((⟨mEl 0 kv⟩ : Array MapEntry).toList.map (·.born)).Nodup := by
    show ((mEl 0 kv).map (·.born)).Nodup
    rw [mEl_born]
    refine List.Pairwise.map _ (fun a b h => ?_) List.nodup_range
    show ¬ 0 + a = 0 + b
    omega
  have hrun := run_entry_at (P := P) w r b kv.length ⟨seen⟩ ⟨mEl 0 kv⟩ kv.length ⟨.int .i64 k, v, i⟩ hit hb (List.mem_of_getElem? hg) hn
  refine ⟨(), I, w, _, trivial, .inl ?_, rfl, Imm.le_refl I, hs, Env.refl w⟩
  simp [execOp, ho, hm, hrun, Result.andThen]
end
end Go.Proofs.Ytkmdgnbfojkcnaa
