/- A part of the proof that pennantlaw23.BasicBack answers true at every input. -/
import Derived.Test.YtjdabjmjldiodaaGreatDoorPBag
set_option linter.all false
namespace Go.Proofs.YtjdabjmjldiodaaGreatDoor
set_option maxRecDepth 100000
open Go.Value (int slice string bool pointer agg tuple func float iface nilIface)
open Go.IntKind (i64 u8 u64 i32 u32 u16 i8 i16)
open Go.FloatKind (f64)
open Go.Ending (returned panicked)
section
open Go
structure Tab (F : Atom) (b : Nat) (vs : List Value) : Prop where
  h : ∀ I h o, Cons I h → F.holds I h o → ∃ t fr, h b = some (.cells ⟨vs⟩ t fr)
theorem Tab.sub {A B : Atom} {b : Nat} {vs : List Value} (h : Tab A b vs) (hs : Sub A B) : Tab B b vs := ⟨λI g o hI hB => let ⟨o', hA⟩ := hs I g o hB; h.h I g o' hI hA⟩
theorem Tab.sat {I : Imm} {F : Atom} {w : World} {b : Nat} {vs : List Value} (h : Tab F b vs) (hs : Sat I (ofL [F]) w) : ∃ t fr, w.heap[b]? = some (.cells ⟨vs⟩ t fr) := by
  obtain ⟨f, h1, -, -⟩ := hs.own
  exact h.h I (hp w) (f 0) hs.imm (h1 0)
def p10C : List Value := Lib.pow10Tab.map λz => int .u64 z
structure TxG (F : Atom) : Prop where
  p10 : Tab F 4 p10C
  mx : ∃ m, Look F ⟨3, 0, none⟩ (.int .i64 m)
theorem TxG.sub {A B : Atom} (h : TxG A) (hs : Sub A B) : TxG B := ⟨h.p10.sub hs, let ⟨m, q⟩ := h.mx; ⟨m, q.sub hs⟩⟩
theorem TxG.tab {I : Imm} {F : Atom} {w : World} (h : TxG F) (hs : Sat I (ofL [F]) w) : Lib.TabIs Tryz.prog w "internal/strconv.uint64pow10" .u64 Lib.pow10Tab := by
  obtain ⟨t, fr, e⟩ := h.p10.sat hs
  unfold Lib.TabIs World.var?
  rw [show Tryz.prog.globalNamed "internal/strconv.uint64pow10" = some 4 from by kernel_rfl]
  show (match w.heap[4]? with | some (.cells cs _ _) => some cs | _ => none) = _
  rw [e] <;> rfl
abbrev itCq : Con where
  X := I1X
  Y := Unit
  args x := [.int .i64 x.i]
  pre _ := []
  cond x := -9223372036854775808 ≤ x.i ∧ x.i ≤ 9223372036854775807
  rdc _ F := TxG F
  rel _ _ := True
  val x _ := .returned (.string ⟨(Lib.itoa x.i).toArray⟩)
  post _ _ := []
  rmono _ _ _ hs h := h.sub hs
theorem below_grow (w : World) (k : Nat) (os : Array Obj) : RowKit.Below w.heap.size w (Sort.grow (w.drewN k) os) := by
  refine ⟨rfl, rfl, rfl, ?_, λj hj => ?_⟩
  · show w.heap.size ≤ (w.heap ++ os).size
    rw [Array.size_append]; omega
  · show (w.heap ++ os)[j]? = _
    rw [Array.getElem?_append_left hj]
theorem it_okq : fo_k 31 itCq := FnOk.ofBelow itCq (λ_ => rfl) (λ_ _ => ()) (λ_ _ => fo_tv) (λ_ _ => rfl) λx _ _ w hc hr hs =>
  (Go.Proofs.Tryz.strconv_Itoa x.i hc.1 hc.2 w (TxG.tab hr hs)).mono λe w' h => ⟨h.1, let ⟨k, os, e⟩ := h.2; e ▸ below_grow w k os⟩
def dgL (u n : Nat) : List Nat := (List.range n).map λt => 48 + u / 10 ^ (n - 1 - t) % 10
def dzL (u n z : Nat) : List Nat := dgL u n ++ List.replicate (z - n) 0
structure F10X where
  b : Nat
  z : Nat
  n : Nat
  cap : Nat
  u : Nat
  t : TypeId
abbrev f10C : Con where
  X := F10X
  Y := Unit
  args x := [.slice (some ⟨x.b, 0, none⟩) x.n x.cap, .int .u64 x.u]
  pre x := [.cells x.b (u8s (List.replicate x.z 0)) x.t]
  cond x := x.n ≤ x.z ∧ x.u < 10 ^ x.n ∧ x.u < 18446744073709551616 ∧ x.n < 4611686018427387904
  rdc _ _ := True
  rel _ _ := True
  val _ _ := .returned (.tuple #[])
  post x _ := [.cells x.b (u8s (dzL x.u x.n x.z)) x.t]
abbrev enc8 : UInt8 → Value := λb => int .u8 (b.toNat : Int)
theorem dg_nat (u j : Nat) : (Lib.dg u j).toNat = 48 + u / 10 ^ j % 10 := by
  unfold Lib.dg
  have : u / 10 ^ j % 10 < 10 := Nat.mod_lt _ (by decide)
  rw [UInt8.toNat_ofNat']
  omega
theorem f10_ok : fo_k 176 f10C := by
  refine ⟨λx F I w hc _ hs => ?_⟩
  obtain ⟨b, z, n, cap, u, t⟩ := x
  obtain ⟨h1, h2, h3, h4⟩ := (hc : n ≤ z ∧ u < 10 ^ n ∧ u < 18446744073709551616 ∧ n < 4611686018427387904)
  dsimp only at h1 h2 h3 h4
  have hs : Sat I (ofL [.cells b (u8s (List.replicate z 0)) t, F]) w := hs
  have hb : w.heap[b]? = some (.cells ⟨u8s (List.replicate z 0)⟩ t (0, 0)) := hs.cells (j := 0) rfl
  have hz : (Array.replicate n (0 : UInt8)).size = n := Array.size_replicate
  have hH : Sort.Holds enc8 w b 0 (Array.replicate n (0 : UInt8)) := by
    intro j hj
    rw [hz] at hj
    constructor
    · unfold World.cell?
      rw [hb]
      have : (Array.replicate n (0 : UInt8))[j]! = 0 := by rw [getElem!_pos _ j (by rw [hz]; exact hj), Array.getElem_replicate]
      rw [this]
      show (⟨u8s (List.replicate z 0)⟩ : Array Value)[0 + j]? = _
      rw [fo_za, ← Array.getElem?_toList]
      show (u8s (List.replicate z 0))[j]? = _
      unfold u8s
      rw [fo_gm, List.getElem?_replicate, if_pos (by omega)] <;> rfl
    · unfold World.frozen?
      rw [hb]
      simp
  have key := Go.Proofs.Tryz.internal_strconv_formatBase10 b 0 cap u (Array.replicate n (0 : UInt8)) w hH (by rw [hz]; exact h2) h3 (by rw [hz]; exact h4)
  rw [hz] at key
  refine key.mono ?_
  rintro e w' ⟨he, k, v', dk, hw, hi⟩
  have hdk : dk.size = n := hi.size
  have hd : ∀ j, j < n → dk[j]! = Lib.dg u (n - 1 - j) := λj hj => hi.done j (fo_zl _) hj
  have hcell : Sort.putCells enc8 0 dk ⟨u8s (List.replicate z 0)⟩ = ⟨u8s (dzL u n z)⟩ := by
    apply Array.ext_getElem?
    intro j
    unfold Sort.putCells
    rw [Array.getElem?_mapIdx, ← Array.getElem?_toList, ← Array.getElem?_toList]
    show Option.map _ (u8s (List.replicate z 0))[j]? = (u8s (dzL u n z))[j]?
    unfold u8s dzL dgL
    rw [fo_gm, fo_gm, List.getElem?_replicate]
    by_cases hjn : j < n
    · rw [if_pos (by omega), fo_gl (by simpa using hjn), fo_gm, List.getElem?_range hjn]
      simp only [Option.map_some]
      rw [if_pos ⟨fo_zl _, by omega⟩, Nat.sub_zero, hd j hjn]
      show some (int .u8 (((Lib.dg u (n - 1 - j)).toNat : Nat) : Int)) = _
      rw [dg_nat]
    · rw [fo_gr2 (by simp; omega), List.getElem?_replicate]
      simp only [List.length_map, List.length_range]
      by_cases hjz : j < z
      · rw [if_pos hjz, if_pos (by omega)]
        simp only [Option.map_some]
        rw [if_neg (by omega)]
      · rw [if_neg hjz, if_neg (by omega)] <;> rfl
  have hh : ∀ c, w'.heap[c]? = if c = b then some (.cells ⟨u8s (dzL u n z)⟩ t (0, 0)) else w.heap[c]? := by
    intro c
    rw [hw]
    show (w.heap.modify b _)[c]? = _
    rw [Array.getElem?_modify]
    by_cases hcb : c = b
    · subst hcb
      rw [if_pos rfl, if_pos rfl, hb]
      show some (Obj.cells (Sort.putCells enc8 0 dk ⟨u8s (List.replicate z 0)⟩) t (0, 0)) = _
      rw [hcell]
    · rw [if_neg (λe => hcb e.symm), if_neg hcb]
  have hsz : w'.heap.size = w.heap.size := by
    rw [hw]
    show (w.heap.modify b _).size = _
    rw [Array.size_modify]
  have hs2 := hs.write (w' := w') (j := 0) (b := b) (A' := .cells b (u8s (dzL u n z)) t) (λo ho => ho.1) (λc hcb => by rw [hh, if_neg hcb]) hsz (λo ho => ⟨ho.1, by show w'.heap[b]? = _; rw [hh, if_pos rfl]⟩)
  refine ⟨(), I, fo_tv, he, Imm.le_refl I, hs2, ?_⟩
  rw [hw]
  exact ⟨rfl, rfl⟩
end
section
open Go
abbrev Glb := Nat → Nat → Option Value
def Glb.ok (G : Glb) (F : Atom) : Prop := ∀ b i v, G b i = some v → Look F ⟨b, i, none⟩ v
section
variable (P : Program) (G : Glb)
def sSem {α : Type} : Sem α → Nat → Option α
  | .pure a, _ => some a
  | .program f, n => sSem (f P) n
  | .mark _ s, n => sSem s n
  | .load _ a f, n + 1 => match a.spot, G a.block a.off with | none, some v => sSem (f v) n | _, _ => none
  | _, _ => none
def isEnt (o : Oper) : Option FuncId :=
  match o.op with
  | .call { callee := .value (.func f), .. } => match P.funcs[f]? with | some fn => (match fn.body with | some _ => some f | none => none) | none => none
  | _ => none
variable (call : FuncId → List Value → Option Value)
def sRun (o : Oper) (T : Tm) : Option Value :=
  match isEnt P o with
  | some f => match sSem P G (execOp (ev T) o) 0 with | some (.enter g args) => bif Nat.beq g f then call f args.toList else none | _ => none
  | none => match sSem P G (execOp (ev T) o) 8 with | some (.value v) => some v | some .skip => some undef | _ => none
variable (N : Nat)
def sOp (o : Oper) (T : Tm) : Option Tm := match sRun P G call o T with | some v => some (putT N o.dst v T) | none => none
def sStep (ops : Array Oper) (o : Oper) (T : Tm) : Option Tm :=
  match o.guard with
  | none => sOp P G call N o T
  | some (j, want) =>
    match (ops[j]?).bind (·.dst) with
    | none => none
    | some d => match T.at d with
      | .bool true => match want with | true => sOp P G call N o (putT N (some d) (.bool true) T) | false => some (putT N o.dst undef (putT N (some d) (.bool true) T))
      | .bool false => match want with | false => sOp P G call N o (putT N (some d) (.bool false) T) | true => some (putT N o.dst undef (putT N (some d) (.bool false) T))
      | .tuple _ => some (putT N o.dst undef T)
      | _ => none
def sRg (ops : Array Oper) : List Nat → Tm → Option Tm
  | [], T => some T
  | i :: r, T => match ops[i]? with | none => none | some o => match sStep P G call N ops o T with | some T' => sRg ops r T' | none => none
def sLoop (c : Tm → Option (Exit × Tm)) : Nat → Tm → Option (Exit × Tm)
  | 0, _ => none
  | n + 1, T => match c T with | some (.normal, T') => sLoop c n T' | r => r
end
abbrev simC (G : Glb) (r : FuncId → List Value → Option Value) (f : FuncId) : Con where
  X := List Value × Value
  Y := Unit
  args x := x.1
  pre _ := []
  cond x := r f x.1 = some x.2
  rdc _ F := G.ok F
  rel _ _ := True
  val x _ := .returned x.2
  post _ _ := []
  rmono _ _ _ hs h := λb i v e => (h b i v e).sub hs
section
variable (P : Program) (G : Glb) (call : FuncId → List Value → Option Value)
def sH (o : Oper) : OH :=
  match isEnt P o with
  | some f => .c (simC G call f) [] []
  | none => .q (List.replicate 8 (.ex 0 .any))
variable (N : Nat) (U : Nat)
def sCode : Code → Tm → Option (Exit × Tm)
  | .skip, T => some (.normal, T)
  | .seq a b, T => match sCode a T with | some (.normal, T') => sCode b T' | r => r
  | .cond c a b, T => match ev T c with | .bool true => sCode a T | .bool false => sCode b T | _ => none
  | .block id c, T => match sCode c T with | some (.exit i, T') => (bif Nat.beq i id then some (.normal, T') else some (.exit i, T')) | r => r
  | .loop c, T => sLoop (sCode c) U T
  | .exit id, T => some (.exit id, T)
  | .scope c, T => match sCode c T with | some (.goto _, _) => none | r => r
  | .ret, T => some (.ret, T)
  | .label _, T => some (.normal, T)
  | .region _ ops draw, T =>
    bif (bif draw then orderOk P (λi => sH P G call (opAt ops i)) ops (List.range ops.size) else true) then
      match sRg P G call N ops (List.range ops.size) T with | some T' => some (.normal, T') | none => none
    else none
  | _, _ => none
end
def sim (P : Program) (G : Glb) (U : Nat) : Nat → FuncId → List Value → Option Value
  | 0, _, _ => none
  | n + 1, f, args =>
    match P.funcs[f]? with
    | none => none
    | some fn => match fn.body with
      | none => none
      | some c => bif Nat.ble args.length fn.ntmps then
          match sCode P G (sim P G U n) fn.ntmps U c (ent args) with
          | some (.normal, T) => sSem P G (resSem fn T) 0
          | some (.ret, T) => sSem P G (resSem fn T) 0
          | _ => none
        else none
section
variable {P : Program} {G : Glb}
theorem sSem_rd {α : Type} {S : St} (hG : G.ok (gt S 0)) : ∀ (s : Sem α) (n : Nat) (a : α), sSem P G s n = some a → ∀ (k : α → Prop), k a → rd P S s (List.replicate n (.ex 0 .any)) k := by
  intro s
  induction s with
  | pure b =>
    intro n a h k hk
    simp only [sSem, Option.some.injEq] at h
    subst h
    exact hk
  | program f ih => intro n a h k hk; exact ih P n a (by simpa only [sSem] using h) k hk
  | mark m s ih => intro n a h k hk; exact ih n a (by simpa only [sSem] using h) k hk
  | load m a f ih =>
    intro n b h k hk
    cases n with
    | zero => simp [sSem] at h
    | succ n =>
      obtain ⟨bl, off, sp⟩ := a
      simp only [sSem] at h
      split at h
      · rename_i v e2
        simp only [List.replicate_succ, rd]
        exact ⟨v, hG _ _ _ e2, ih v n b h k hk⟩
      · cases h
  | _ => intro n a h; simp [sSem] at h
variable {call : FuncId → List Value → Option Value} {N : Nat}
theorem sOp_run (hc : ∀ f, FnOk P f (simC G call f)) {o : Oper} {T T' : Tm} {S : St} (hG : G.ok (gt S 0)) {k : Tm → St → Prop} {kp : List PanicEntry → Tm → St → Prop}
    (h : sOp P G call N o T = some T') (hk : k T' S) : opRun P N o (sH P G call o) T S k kp := by
  unfold sOp at h
  split at h
  · rename_i v hv
    cases h
    unfold sRun at hv
    unfold sH
    split at hv
    · rename_i f hf
      split at hv
      · rename_i g args he
        cases hg : Nat.beq g f with
        | false => rw [hg] at hv; cases hv
        | true =>
          rw [hg] at hv
          have hg := Nat.eq_of_beq_eq_true hg
          subst hg
          show rd P S (execOp (ev T) o) [] _
          refine sSem_rd hG _ 0 _ he _ ⟨hc g, rfl, ⟨(args.toList, v), rfl, rfl, hv, λb i u e => Look.rest (j := 0) (by simp) (hG b i u e), λy _ => ?_⟩⟩
          exact hk
      · cases hv
    · rename_i hf
      show rd P S (execOp (ev T) o) (List.replicate 8 (.ex 0 .any)) _
      split at hv
      · rename_i u he
        cases hv
        exact sSem_rd hG _ 8 _ he _ hk
      · rename_i he
        cases hv
        exact sSem_rd hG _ 8 _ he _ hk
      · cases hv
  · cases h
theorem sStep_run (hc : ∀ f, FnOk P f (simC G call f)) {ops : Array Oper} {o : Oper} {T T' : Tm} {S : St} (hG : G.ok (gt S 0)) {k : Tm → St → Prop} {kp : List PanicEntry → Tm → St → Prop}
    (h : sStep P G call N ops o T = some T') (hk : k T' S) : opStep P N ops o (sH P G call o) T S k kp := by
  unfold sStep at h
  unfold opStep
  split at h
  · rename_i hg
    rw [hg]
    exact sOp_run hc hG h hk
  · rename_i j want hg
    rw [hg]
    dsimp only
    split at h
    · cases h
    · rename_i d hd
      rw [hd]
      dsimp only
      split at h
      · rename_i ht
        rw [ht]
        cases want with
        | true => exact sOp_run hc hG h hk
        | false => cases h; exact hk
      · rename_i ht
        rw [ht]
        cases want with
        | false => exact sOp_run hc hG h hk
        | true => cases h; exact hk
      · rename_i ht
        rw [ht]
        cases h
        exact hk
      · cases h
theorem sRg_run (hc : ∀ f, FnOk P f (simC G call f)) {ops : Array Oper} {S : St} (hG : G.ok (gt S 0)) {k : Tm → St → Prop} {kp : List PanicEntry → Tm → St → Prop} : ∀ (l : List Nat) {T T' : Tm},
    sRg P G call N ops l T = some T' → k T' S → rg P N (λi => sH P G call (opAt ops i)) ops l T S k kp := by
  intro l
  induction l with
  | nil =>
    intro T T' h hk
    cases h
    exact hk
  | cons i r ih =>
    intro T T' h hk
    simp only [sRg] at h
    simp only [rg]
    split at h
    · cases h
    · rename_i o ho
      rw [ho]
      have e : opAt ops i = o := by unfold opAt; rw [fo_agd, ho]; rfl
      split at h
      · rename_i T1 h1
        rw [e]
        exact sStep_run hc hG h1 (ih h hk)
      · cases h
theorem sRgD_run (hc : ∀ f, FnOk P f (simC G call f)) {ops : Array Oper} {ms : List Nat} {S : St} (hG : G.ok (gt S 0)) {k : Tm → St → Prop} {kp : List PanicEntry → Tm → St → Prop} : ∀ (l : List Nat) {T T' : Tm},
    sRg P G call N ops l T = some T' → k T' S → rgD P N (λi => sH P G call (opAt ops i)) ops ms l T S k kp := by
  intro l
  induction l with
  | nil =>
    intro T T' h hk
    cases h
    exact hk
  | cons i r ih =>
    intro T T' h hk
    simp only [sRg] at h
    simp only [rgD]
    split at h
    · cases h
    · rename_i o ho
      have e : opAt ops i = o := by unfold opAt; rw [fo_agd, ho]; rfl
      split at h
      · rename_i T1 h1
        rw [e]
        exact sStep_run hc hG h1 (ih h hk)
      · cases h
theorem sH_cls (o o' : Oper) (j : Nat) : cls (res P o' (sH P G call o)) ≠ .new j := by
  unfold sH
  split <;> exact λh => by cases h
theorem sH_new {ops : Array Oper} : ∀ l : List Nat, newIds P (λi => sH P G call (opAt ops i)) ops l = [] := by
  intro l
  unfold newIds
  rw [List.filterMap_eq_nil_iff]
  intro i _
  split
  · rename_i j h
    exact (sH_cls _ _ j h).elim
  · rfl
variable {U : Nat}
theorem sCode_wp (hm : P.follows .mixedOrders = true) (hc : ∀ f, FnOk P f (simC G call f)) {S : St} (hG : G.ok (gt S 0)) : ∀ (c : Code) {T T' : Tm} {e : Exit} {a : Act} {I : Imm} {w : World} {ds : List Deferred} {Q : Exit → Act → World → Prop},
    sCode P G call N U c T = some (e, T') → Rel N T a → a.defers = ds → Sat I S w → (∀ a' w', Aft N I w ds (λT2 S2 => T2 = T' ∧ S2 = S) a' w' → Q e a' w') → c.wp P Q a w := by
  intro c
  induction c with
  | skip =>
    intro T T' e a I w ds Q h hrel hd hs hQ
    cases h
    exact wp_skip (hQ _ _ ⟨_, S, I, hrel, hd, Imm.le_refl I, hs, Env.refl w, rfl, rfl⟩)
  | exit id =>
    intro T T' e a I w ds Q h hrel hd hs hQ
    cases h
    exact wp_exit (hQ _ _ ⟨_, S, I, hrel, hd, Imm.le_refl I, hs, Env.refl w, rfl, rfl⟩)
  | ret =>
    intro T T' e a I w ds Q h hrel hd hs hQ
    cases h
    exact wp_ret (hQ _ _ ⟨_, S, I, hrel, hd, Imm.le_refl I, hs, Env.refl w, rfl, rfl⟩)
  | label l =>
    intro T T' e a I w ds Q h hrel hd hs hQ
    cases h
    exact wp_label (hQ _ _ ⟨_, S, I, hrel, hd, Imm.le_refl I, hs, Env.refl w, rfl, rfl⟩)
  | seq x y ihx ihy =>
    intro T T' e a I w ds Q h hrel hd hs hQ
    simp only [sCode] at h
    refine wp_seq ?_
    split at h
    · rename_i T1 h1
      refine ihx h1 hrel hd hs λa' w' haft => ?_
      obtain ⟨T2, S2, J, q1, q2, q3, q4, q5, rfl, rfl⟩ := haft
      exact ihy h q1 q2 q4 λa w h => hQ a w (h.from q3 q5)
    · rename_i hn
      refine ihx h hrel hd hs λa' w' haft => ?_
      cases e with
      | normal => exact (hn _ h).elim
      | _ => exact hQ _ _ haft
  | cond x c1 c2 ih1 ih2 =>
    intro T T' e a I w ds Q h hrel hd hs hQ
    simp only [sCode] at h
    split at h
    · rename_i ht
      exact wp_cond (t := true) (by rw [hrel.eval]; exact ht) (ih1 h hrel hd hs hQ)
    · rename_i ht
      exact wp_cond (t := false) (by rw [hrel.eval]; exact ht) (ih2 h hrel hd hs hQ)
    · cases h
  | block id c ih =>
    intro T T' e a I w ds Q h hrel hd hs hQ
    simp only [sCode] at h
    split at h
    · rename_i i T1 h1
      refine wp_block (ih h1 hrel hd hs λa' w' haft => ?_)
      simp only [Exit.inBlock]
      by_cases hi : i = id
      · subst hi
        rw [Nat.beq_refl] at h
        cases h
        simp only [if_true]
        exact hQ _ _ haft
      · rw [beq_ne hi] at h
        cases h
        simp only [hi, if_false]
        exact hQ _ _ haft
    · rename_i hn
      refine wp_block (ih h hrel hd hs λa' w' haft => ?_)
      cases e with
      | exit i => exact (hn _ _ h).elim
      | _ => exact hQ _ _ haft
  | scope c ih =>
    intro T T' e a I w ds Q h hrel hd hs hQ
    simp only [sCode] at h
    split at h
    · cases h
    · rename_i hn
      refine wp_scope_straight (ih h hrel hd hs λa' w' haft => ?_)
      cases e with
      | goto l => exact (hn _ _ h).elim
      | _ => exact hQ _ _ haft
  | loop c ih =>
    intro T T' e a I w ds Q h hrel hd hs hQ
    simp only [sCode] at h
    refine wp_loop_rounds U ?_
    have go : ∀ (n : Nat) {T : Tm} {a : Act} {I : Imm} {w : World}, sLoop (sCode P G call N U c) n T = some (e, T') → Rel N T a → a.defers = ds → Sat I S w → (∀ a' w', Aft N I w ds (λT2 S2 => T2 = T' ∧ S2 = S) a' w' → Q e a' w') → Code.rounds P c Q n a w := by
     intro n
     induction n with
     | zero => intro T a I w h; cases h
     | succ n ihn =>
      intro T a I w h hrel hd hs hQ
      simp only [sLoop] at h
      simp only [Code.rounds]
      split at h
      · rename_i T1 h1
        refine ih h1 hrel hd hs λa' w' haft => ?_
        obtain ⟨T2, S2, J, q1, q2, q3, q4, q5, rfl, rfl⟩ := haft
        exact ihn h q1 q2 q4 λa w h => hQ a w (h.from q3 q5)
      · rename_i hn
        refine ih h hrel hd hs λa' w' haft => ?_
        cases e with
        | normal => exact (hn _ h).elim
        | _ => exact hQ _ _ haft
    exact go U h hrel hd hs hQ
  | region id ops draw =>
    intro T T' e a I w ds Q h hrel hd hs hQ
    simp only [sCode] at h
    cases draw with
    | false =>
      simp only [fo_cf, fo_ct] at h
      split at h
      · rename_i T1 h1
        cases h
        exact wp_region (rg_sound _ (sRg_run (k := λT2 S2 => T2 = T' ∧ S2 = S) (kp := λ_ _ _ => False) hc hG _ h1 ⟨rfl, rfl⟩) hrel hd hs (λa w h => hQ a w h) (λch a w ⟨_, _, _, _, _, _, _, _, h⟩ => h.elim))
      · cases h
    | true =>
      simp only [fo_ct] at h
      cases ho : orderOk P (λi => sH P G call (opAt ops i)) ops (List.range ops.size) with
      | false => rw [ho] at h; cases h
      | true =>
        rw [ho] at h
        simp only [fo_ct] at h
        split at h
        · rename_i T1 h1
          cases h
          exact wp_region_any hm (draw_sound (by rw [ho, sH_new]; rfl) (sRgD_run (k := λT2 S2 => T2 = T' ∧ S2 = S) (kp := λ_ _ _ => False) hc hG _ h1 ⟨rfl, rfl⟩) hrel hd (hs.heap (w' := { w with drawn := w.drawn + 1 }) rfl) (λa w h => hQ a w (h.from (Imm.le_refl _) ⟨rfl, rfl⟩)) (λch a w ⟨_, _, _, _, _, _, _, _, h⟩ => h.elim))
        · cases h
  | _ => intro T T' e a I w ds Q h; cases h
theorem sim_all (hm : P.follows .mixedOrders = true) : ∀ n f, FnOk P f (simC G (sim P G U n) f) := by
  intro n
  induction n with
  | zero => exact λf => ⟨λx F I w hc => by cases hc⟩
  | succ n ih =>
    refine λf => ⟨λx F I w hc hr hs => ?_⟩
    obtain ⟨args, v⟩ := x
    have hc : sim P G U (n + 1) f args = some v := hc
    have hr : G.ok F := hr
    have hs : Sat I (ofL [F]) w := hs
    simp only [sim] at hc
    split at hc
    · cases hc
    · rename_i fn hf
      split at hc
      · cases hc
      · rename_i c hb
        cases hl : Nat.ble args.length fn.ntmps with
        | false => rw [hl] at hc; cases hc
        | true =>
          rw [hl] at hc
          simp only [fo_ct] at hc
          refine calls_of_wp hf hb ?_
          have fin : ∀ (T' : Tm) (a : Act) (w' : World), sSem P G (resSem fn T') 0 = some v → Aft fn.ntmps I w [] (λT2 S2 => T2 = T' ∧ S2 = ofL [F]) a w' →
              a.defers = [] ∧ ∃ u, (results fn a.tmps).run P w' = .ok u w' ∧ ∃ y J, (simC G (sim P G U (n + 1)) f).rel (args, v) y ∧ returned u = (simC G (sim P G U (n + 1)) f).val (args, v) y ∧ Imm.le I J ∧ Sat J (ofL ((simC G (sim P G U (n + 1)) f).post (args, v) y ++ [F])) w' ∧ Env w w' := by
            rintro T' a w' he ⟨T2, S2, J, q1, q2, q3, q4, q5, rfl, rfl⟩
            obtain ⟨u, hu, hk⟩ := rd_sound q4 _ _ _ (sSem_rd (S := ofL [F]) hr _ 0 _ he (· = v) rfl)
            subst hk
            exact ⟨q2, u, by rw [results_eq q1]; exact hu, (), J, fo_tv, rfl, q3, q4, q5⟩
          split at hc
          · rename_i T' h1
            exact sCode_wp (S := ofL [F]) hm ih hr c h1 (rel_ent args (Nat.le_of_ble_eq_true hl)) rfl hs λa w' haft => fin T' a w' hc haft
          · rename_i T' h1
            exact sCode_wp (S := ofL [F]) hm ih hr c h1 (rel_ent args (Nat.le_of_ble_eq_true hl)) rfl hs λa w' haft => fin T' a w' hc haft
          · cases hc
end
abbrev inC (G : Glb) (args : List Value) (v : Value) : Con where
  X := Unit
  Y := Unit
  args _ := args
  pre _ := []
  cond _ := True
  rdc _ F := G.ok F
  rel _ _ := True
  val _ _ := .returned v
  post _ _ := []
  rmono _ _ _ hs h := λb i v e => (h b i v e).sub hs
theorem FnOk.sim {P : Program} {G : Glb} {f : FuncId} {args : List Value} {v : Value} (hm : P.follows .mixedOrders = true) (U n : Nat) (h : sim P G U n f args = some v) : FnOk P f (inC G args v) :=
  ⟨λ_ F I w _ hr hs => (sim_all hm n f).h (args, v) F I w h hr hs⟩
theorem Glb.ok.rest {G : Glb} {S : St} {touch : List Nat} {j : Nat} (h : G.ok (gt S j)) (hj : j ∉ touch) : G.ok (.pred (rest S touch)) := λb i v e => Look.rest hj (h b i v e)
def noG : Glb := λ_ _ => none
theorem noG_ok {F : Atom} : noG.ok F := λ_ _ _ h => by cases h
end
section
open Go
def gN : Glb := λb i => bif Nat.beq b 6 && Nat.beq i 0 then some (.bool true) else bif Nat.beq b 14 && Nat.beq i 0 then some (.int .u64 52) else none
theorem pfI_ok : fo_k 227 (inC gN [.string ⟨#[49]⟩, .int .i64 64] (.tuple #[.float .f64 4607182418800017408, .nilIface])) := FnOk.sim (by kernel_rfl) 4 12 (by kernel_rfl)
theorem dcI_ok : fo_k 228 (inC noG [.string ⟨#[49]⟩] (.bool true)) := FnOk.sim (by kernel_rfl) 4 12 (by kernel_rfl)
end
section
open Go
set_option maxHeartbeats 1000000
structure B1 where
  b : Nat
def gP : Glb := λb i => bif Nat.beq b 11 then (bif Nat.beq i 728 then some (.int .u64 10240000000000000000) else bif Nat.beq i 729 then some (.int .u64 0) else none) else none
def scA (b : Nat) : Atom := .cells b [.int .u64 10240000000000000000, .int .u64 0, .int .i64 7] 323
abbrev psI : Con where
  X := B1
  Y := Unit
  args x := [.pointer (some ⟨x.b, 0, none⟩), .int .i64 (-63), .int .i64 16, .int .i64 53]
  pre x := [.cells x.b [.int .u64 0, .int .u64 0, .int .i64 0] 323]
  cond _ := True
  rdc _ F := gP.ok F
  rel _ _ := True
  val _ _ := .returned (.tuple #[])
  post x _ := [scA x.b]
  rmono _ _ _ hs h := λb i v e => (h b i v e).sub hs
def q262 := (0 : Int) ≤ (16 : Int) - (-348 : Int) ∧ (16 : Int) - (-348 : Int) < (↑(696 : Nat) : Int)
abbrev q230 := fo_vu 10240000000000000000
theorem psi_vc (x : B1) (F : Atom) (hc : psI.cond x) (hr : psI.rdc x F) :
 fo_rI ((16 : Int) - (-348 : Int)) ∧ q262 ∧ Look F ⟨11, 728, none⟩ q230 ∧ fo_sm x.b 0 ∧ fo_rI ((16 : Int) - (-348 : Int)) ∧ q262 ∧ Look F ⟨11, 729, none⟩ (fo_vu 0) ∧ fo_sm x.b 1 ∧ fo_rI ((-63 : Int) + (53 : Int)) ∧ fo_rI ((-63 : Int) + (53 : Int) + (3 : Int)) ∧ fo_sm x.b 2 ∧ Done psI x F q74 [(0, fo_cl x.b [fo_vu 10240000000000000000, fo_vu 0, fo_vi (fo_wi ((0 : Int) - ((-63 : Int) + (53 : Int) + (3 : Int))))] 323), (1, F)] := by
  delta q262 q230 q74 fo_sm fo_rI fo_vi fo_vu fo_cl fo_wi fo_rt
  exact ⟨by decide, by decide, hr _ _ _ rfl, ⟨rfl, rfl⟩, by decide, by decide, hr _ _ _ rfl, ⟨rfl, rfl⟩, by decide, by decide, ⟨rfl, rfl⟩, (), fo_tv, rfl, Ent.pick [0, 1] rfl rfl⟩
theorem psi_ok : fo_k 284 psI := fo 32 Tryz.func284 (λ_ _ => [(0, 5, .q [.ex 1 (.is (.int .u64 10240000000000000000))]), (0, 8, .w [.aq 0]), (1, 5, .q [.ex 1 (.is (.int .u64 0))]), (1, 8, .w [.aq 0]), (2, 8, .w [.aq 0])]) [] fo_i fo_i fo_o [] psi_vc
abbrev usI (u v : Nat) : Con where
  X := B1
  Y := Unit
  args x := [.int .u64 u, .pointer (some ⟨x.b, 0, none⟩)]
  pre _ := []
  cond _ := True
  rdc x F := Look F ⟨x.b, 0, none⟩ (.int .u64 10240000000000000000) ∧ Look F ⟨x.b, 2, none⟩ (.int .i64 7)
  rel _ _ := True
  val _ _ := .returned (.int .u64 v)
  post _ _ := []
  rmono _ _ _ hs h := ⟨h.1.sub hs, h.2.sub hs⟩
abbrev mlI : Con := inC noG [.int .u64 9223372036854775296, .int .u64 10240000000000000000] (.tuple #[.int .u64 5119999999999999715, .int .u64 14442061007222210560])
theorem mlI_ok : fo_k 260 mlI := FnOk.sim (by kernel_rfl) 4 12 (by kernel_rfl)
abbrev q60 : Unit → Atom → Prop := λ_ rr => noG.ok rr
theorem usl_vc (x : B1) (F : Atom) (hc : (usI 9223372036854775296 39999999999999997).cond x) (hr : (usI 9223372036854775296 39999999999999997).rdc x F) :
 Look F ⟨x.b, 0, none⟩ q230 ∧ fo_C2 260 mlI q76 q60 [fo_vu (↑(9223372036854775296 : Nat) : Int), fo_vu 10240000000000000000] (q114 F) (λb a => Look F ⟨x.b, 2, none⟩ (fo_vi 7) ∧ Done (usI 9223372036854775296 39999999999999997) x F (fo_rt (fo_vu (fo_wu (↑(fo_bu (Int.fdiv (5119999999999999715 : Int) ((2 : Int) ^ min (fo_wi (↑(fo_bi (7 : Int) &&& fo_bi (63 : Int)).toNat : Int)).toNat u64.bits)) ||| fo_bu (1 : Int)).toNat : Int)))) [(0, F)]) := by
  delta q230 q76 q60 q114 fo_aR fo_C2 fo_vi fo_vu fo_bu fo_bi fo_wu fo_wi fo_rt
  exact ⟨hr.1, mlI_ok, rfl, (), rfl, rfl, fo_tv, noG_ok, λ_ _ => ⟨hr.2, (), fo_tv, by kernel_rfl, Ent.pick [0] rfl rfl⟩⟩
theorem usl_ok : fo_k 286 (usI 9223372036854775296 39999999999999997) := fo 59 Tryz.func286 (λ_ _ => [(1, 4, .q [.ex 0 (.is (.int .u64 10240000000000000000))]), (1, 5, .c mlI [] []), (2, 3, .q [.ex 0 (.is (.int .i64 7))]), (2, 4, .q []), (3, 2, .q []), (3, 4, .q []), (4, 2, .q []), (4, 3, .q [])]) [] fo_i fo_i fo_o [] usl_vc
abbrev mhI : Con := inC noG [.int .u64 9223372036854776832, .int .u64 10240000000000000000] (.tuple #[.int .u64 5120000000000000568, .int .u64 8009366132974682112])
theorem mhI_ok : fo_k 260 mhI := FnOk.sim (by kernel_rfl) 4 12 (by kernel_rfl)
theorem ush_vc (x : B1) (F : Atom) (hc : (usI 9223372036854776832 40000000000000005).cond x) (hr : (usI 9223372036854776832 40000000000000005).rdc x F) :
 Look F ⟨x.b, 0, none⟩ q230 ∧ fo_C2 260 mhI q76 q60 [fo_vu (↑(9223372036854776832 : Nat) : Int), fo_vu 10240000000000000000] (q114 F) (λb a => Look F ⟨x.b, 2, none⟩ (fo_vi 7) ∧ Done (usI 9223372036854776832 40000000000000005) x F (fo_rt (fo_vu (fo_wu (↑(fo_bu (Int.fdiv (5120000000000000568 : Int) ((2 : Int) ^ min (fo_wi (↑(fo_bi (7 : Int) &&& fo_bi (63 : Int)).toNat : Int)).toNat u64.bits)) ||| fo_bu (1 : Int)).toNat : Int)))) [(0, F)]) := by
  delta q230 q76 q60 q114 fo_aR fo_C2 fo_vi fo_vu fo_bu fo_bi fo_wu fo_wi fo_rt
  exact ⟨hr.1, mhI_ok, rfl, (), rfl, rfl, fo_tv, noG_ok, λ_ _ => ⟨hr.2, (), fo_tv, by kernel_rfl, Ent.pick [0] rfl rfl⟩⟩
theorem ush_ok : fo_k 286 (usI 9223372036854776832 40000000000000005) := fo 59 Tryz.func286 (λ_ _ => [(1, 4, .q [.ex 0 (.is (.int .u64 10240000000000000000))]), (1, 5, .c mhI [] []), (2, 3, .q [.ex 0 (.is (.int .i64 7))]), (2, 4, .q []), (3, 2, .q []), (3, 4, .q []), (4, 2, .q []), (4, 3, .q [])]) [] fo_i fo_i fo_o [] ush_vc
abbrev sfI : Con := inC gP [.int .u64 9223372036854775808, .int .i64 (-63)] (.tuple #[.int .u64 1000000000000000, .int .i64 (-15)])
abbrev skI : Con := inC noG [.int .i64 (-52)] (.int .i64 (-16))
theorem skI_ok : fo_k 283 skI := FnOk.sim (by kernel_rfl) 4 12 (by kernel_rfl)
abbrev lpI : Con := inC noG [.int .i64 16] (.int .i64 53)
theorem lpI_ok : fo_k 285 lpI := FnOk.sim (by kernel_rfl) 4 12 (by kernel_rfl)
abbrev nlI : Con := inC noG [.int .u64 39999999999999997, .int .i64 0] (.int .u64 39999999999999997)
theorem nlI_ok : fo_k 287 nlI := FnOk.sim (by kernel_rfl) 4 12 (by kernel_rfl)
abbrev nhI : Con := inC noG [.int .u64 40000000000000005, .int .i64 0] (.int .u64 40000000000000005)
theorem nhI_ok : fo_k 287 nhI := FnOk.sim (by kernel_rfl) 4 12 (by kernel_rfl)
abbrev ceI : Con := inC noG [.int .u64 39999999999999997] (.int .u64 10000000000000000)
theorem ceI_ok : fo_k 288 ceI := FnOk.sim (by kernel_rfl) 4 12 (by kernel_rfl)
abbrev flI : Con := inC noG [.int .u64 40000000000000005] (.int .u64 10000000000000001)
theorem flI_ok : fo_k 289 flI := FnOk.sim (by kernel_rfl) 4 12 (by kernel_rfl)
abbrev q315 : List Value := [fo_vu 0, fo_vu 0, fo_vi 0]
abbrev q336 : B1 → Prop := λ_ => True
def q333 (rr : Atom) (l : B1) := Look rr ⟨l.b, 0, none⟩ q230 ∧ Look rr ⟨l.b, 2, none⟩ (fo_vi 7)
abbrev q61 (F : Atom) (n : B1) := [(0, F), (5000, fo_cl n.b [fo_vu 10240000000000000000, fo_vu 0, fo_vi 7] 323)]
abbrev q343 (F : Atom) (n : B1) := fo_aR (q61 F n) []
theorem sfi_vc (x : PUnit) (F : Atom) (hc : sfI.cond x) (hr : sfI.rdc x F) :
 fo_rI ((63 : Int) - (52 : Int)) ∧ fo_rI ((-63 : Int) + ((63 : Int) - (52 : Int))) ∧ fo_C2 283 skI q76 q60 [fo_vi ((-63 : Int) + ((63 : Int) - (52 : Int)))] (q114 F) (λs r => fo_rI ((63 : Int) - (52 : Int) - (2 : Int)) ∧ fo_rI ((63 : Int) - (52 : Int) - (1 : Int)) ∧ ∀(q : Nat), fo_C2 285 lpI q76 q60 [fo_vi (fo_wi ((0 : Int) - (-16 : Int)))] (fo_aR [(0, F), (5000, fo_cl q q315 323)] []) (λp o => fo_C4 284 psI q336 (λ_ rr => gP.ok rr) (λ_ _ => True) [fo_vp (q17 q), fo_vi (-63), fo_vi (fo_wi ((0 : Int) - (-16 : Int))), fo_vi 53] [fo_cl q q315 323] (fo_aR [(0, F), (5000, fo_cl q q315 323)] [5000]) (λn m => fo_C2 286 (usI 9223372036854775296 39999999999999997) q336 (λl rr => q333 rr l) [fo_vu (fo_wu ((9223372036854775808 : Int) - fo_wu ((1 : Int) * (2 : Int) ^ min ((63 : Int) - (52 : Int) - (2 : Int)).toNat u64.bits))), fo_vp (q17 q)] (q343 F n) (λl k => fo_C2 287 nlI q76 q60 [fo_vu (↑(39999999999999997 : Nat) : Int), fo_vi (fo_wi (↑(fo_bi (fo_wi (Int.fdiv (9223372036854775808 : Int) ((2 : Int) ^ min ((63 : Int) - (52 : Int)).toNat u64.bits))) &&& fo_bi (1 : Int)).toNat : Int))] (q343 F n) (λj i => fo_C2 288 ceI q76 q60 [fo_vu 39999999999999997] (q343 F n) (λh g => fo_C2 286 (usI 9223372036854776832 40000000000000005) q336 (λf rr => q333 rr f) [fo_vu (fo_wu (9223372036854775808 + fo_wu ((1 : Int) * (2 : Int) ^ min ((63 : Int) - (52 : Int) - (1 : Int)).toNat u64.bits))), fo_vp (q17 q)] (q343 F n) (λf e => fo_C2 287 nhI q76 q60 [fo_vu (↑(40000000000000005 : Nat) : Int), fo_vi (fo_wi ((0 : Int) - fo_wi (↑(fo_bi (fo_wi (Int.fdiv (9223372036854775808 : Int) ((2 : Int) ^ min ((63 : Int) - (52 : Int)).toNat u64.bits))) &&& fo_bi (1 : Int)).toNat : Int)))] (q343 F n) (λd c => fo_C2 289 flI q76 q60 [fo_vu 40000000000000005] (q343 F n) (λb a => fo_rI (fo_wi ((0 : Int) - (-16 : Int)) - 1) ∧ Done sfI x F (fo_rt (tuple ⟨[fo_vu (fo_wu (Int.tdiv (10000000000000001 : Int) (10 : Int))), fo_vi (fo_wi ((0 : Int) - (fo_wi ((0 : Int) - (-16 : Int)) - 1)))]⟩)) (q61 F n)))))))))) := by
  delta q76 q60 q114 q315 q336 q17 q230 q333 q61 q343 fo_aR fo_rI fo_C2 fo_C4 fo_vi fo_vu fo_vp fo_cl fo_bi fo_wu fo_wi fo_rt
  exact ⟨by decide, by decide, skI_ok, rfl, (), by kernel_rfl, rfl, fo_tv, noG_ok, λ_ _ => ⟨by decide, by decide, λb => ⟨lpI_ok, rfl, (), by kernel_rfl, rfl, fo_tv, noG_ok, λ_ _ => ⟨psi_ok, rfl, ⟨b⟩, by kernel_rfl, rfl, fo_tv, Glb.ok.rest (j := 0) hr (by simp), λ_ _ =>
    ⟨usl_ok, rfl, ⟨b⟩, by kernel_rfl, rfl, fo_tv, ⟨Look.rest (j := 5000) (by simp) (Look.cells rfl), Look.rest (j := 5000) (by simp) (Look.cells rfl)⟩, λ_ _ => ⟨nlI_ok, rfl, (), by kernel_rfl, rfl, fo_tv, noG_ok, λ_ _ => ⟨ceI_ok, rfl, (), rfl, rfl, fo_tv, noG_ok, λ_ _ =>
    ⟨ush_ok, rfl, ⟨b⟩, by kernel_rfl, rfl, fo_tv, ⟨Look.rest (j := 5000) (by simp) (Look.cells rfl), Look.rest (j := 5000) (by simp) (Look.cells rfl)⟩, λ_ _ => ⟨nhI_ok, rfl, (), by kernel_rfl, rfl, fo_tv, noG_ok, λ_ _ => ⟨flI_ok, rfl, (), rfl, rfl, fo_tv, noG_ok, λ_ _ => ⟨by decide, (), fo_tv, by kernel_rfl, Ent.pick [0] rfl rfl⟩⟩⟩⟩⟩⟩⟩⟩⟩⟩⟩
theorem sfi_ok : fo_k 255 sfI := fo 133 Tryz.func255 (λ_ _ => [(13, 3, .c skI [] []), (14, 3, .q []), (14, 4, .q []), (15, 3, .q []), (15, 4, .q []), (16, 2, .q []), (16, 3, .q []), (16, 4, .q []), (27, 0, .n 5000), (28, 3, .c lpI [] []), (28, 4, .c psI [5000] [5000]), (29, 1, .c (usI 9223372036854775296 39999999999999997) [] []), (29, 3, .c nlI [] []), (29, 4, .c ceI [] []), (30, 1, .c (usI 9223372036854776832 40000000000000005) [] []), (30, 4, .c nhI [] []), (30, 5, .c flI [] []), (31, 1, .q []), (32, 1, .q [])]) [] fo_i fo_i fo_o [] sfi_vc
end
section
open Go
set_option maxHeartbeats 1000000
def trN (u n : Nat) : Nat → Nat
  | 0 => 0
  | k + 1 => bif (dgL u n).getD k 0 == 48 then trN u n k else k + 1
theorem dgL_len (u n : Nat) : (dgL u n).length = n := by simp [dgL]
theorem dzL_get {u n z k : Nat} (h : k < n) : (u8s (dzL u n z))[k]? = some (.int .u8 ((dgL u n).getD k 0 : Nat)) := by
  unfold dzL
  rw [u8s_app, fo_gl (by rw [u8s_len, dgL_len]; exact h)]
  unfold u8s
  rw [fo_gm, fo_ge (by rw [dgL_len]; exact h), fo_gd, fo_ge (by rw [dgL_len]; exact h)] <;> rfl
structure Z32 (vs : List Value) : Prop where
  h : vs = u8s (List.replicate 32 0)
structure SdXq where
  t : TypeId
  vs : List Value
  b : Nat
  u : Nat
  p : Int
  n : Nat
abbrev sdCq : Con where
  X := SdXq
  Y := Unit
  args x := [.slice (some ⟨x.b, 0, none⟩) 32 32, .int .u64 x.u, .int .i64 x.p, .int .i64 x.n]
  pre x := [.cells x.b x.vs x.t]
  cond x := Z32 x.vs ∧ x.n ≤ 20 ∧ x.u < 10 ^ x.n ∧ x.u < 18446744073709551616 ∧ -100000 ≤ x.p ∧ x.p ≤ 100000
  rdc _ _ := True
  rel _ _ := True
  val x _ := .returned (.tuple #[.int .i64 (x.n + x.p), .int .i64 (trN x.u x.n x.n : Nat)])
  post x _ := [.cells x.b (u8s (dzL x.u x.n 32)) x.t]
def sdInvq (x : SdXq) (F : Atom) : Nat → Option Inv := fun
  | 0 => some { X := Nat, P := λk => k ≤ x.n ∧ trN x.u x.n x.n = trN x.u x.n k, mu := λk => k, lv := λk => [(0, .slice (some ⟨x.b, 0, none⟩) 32 32), (3, .int .i64 k), (8, .int .i64 (x.n + x.p))], st := λ_ => [.cells x.b (u8s (dzL x.u x.n 32)) x.t, F] }
  | _ => none
def sdOvq (_x : SdXq) (_F : Atom) : List (Nat × Nat × OH) := [(2, 2, .qo slQ), (2, 4, .c f10C [0] [0]), (4, 6, .qo (ixQ 1)), (4, 7, .q [.ex 0 (.int .u8)])]
abbrev q274 (x : SdXq) : Option Addr := some ⟨x.b, 0, none⟩
def q332 (a : Nat) (x : SdXq) := a ≤ x.n ∧ trN x.u x.n x.n = trN x.u x.n a
abbrev q162 (x : SdXq) (F : Atom) := [(0, fo_cl x.b (u8s (dzL x.u x.n 32)) x.t), (1, F)]
def q330 (x : SdXq) (F : Atom) (e : Nat) := Done sdCq x F (fo_rt (tuple ⟨[fo_vi (x.n + x.p), fo_vi ↑e]⟩)) (q162 x F)
theorem sdq_vc (x : SdXq) (F : Atom) (hc : sdCq.cond x) (hr : sdCq.rdc x F) :
 fo_Bd ((x.n : Int) ≤ (↑(32 : Nat) : Int)) (T64 (opIn Tryz.f250 2 2) [fo_vl (q274 x) 32 32, fo_vi ↑x.n] (λh => fo_C3 176 f10C (λg => g.n ≤ g.z ∧ g.u < Nat.pow 10 g.n ∧ g.u < 18446744073709551616 ∧ g.n < 4611686018427387904) [fo_vl h.a h.h.toNat h.cap, fo_vu ↑x.u] [fo_cl x.b x.vs x.t] (λg f => fo_rI (x.n + x.p) ∧ (∃(a : Nat), q332 a x ∧ (fo_vl (q274 x) 32 32 = fo_vl (q274 x) 32 32 ∧ fo_vi ↑x.n = fo_vi ↑a ∧ fo_vi (x.n + x.p) = fo_vi (x.n + x.p) ∧ True) ∧ Ent [(0, fo_cl g.b (u8s (dzL g.u g.n g.z)) g.t), (1, F)] (q162 x F)) ∧ fo_vA λ(e : Nat) _ => q332 e x → fo_Bd ((e : Int) > (0 : Int)) (fo_rI ((e : Int) - (1 : Int)) ∧ T48 (opIn Tryz.f250 4 6) [fo_vl (q274 x) 32 32, fo_vi ((e : Int) - (1 : Int))] (λc => T67 (fo_cl x.b (u8s (dzL x.u x.n 32)) x.t) ⟨c.b, c.o + c.n.toNat * 1, none⟩ (λb => Br (b == 48) (fo_rI ((e : Int) - (1 : Int)) ∧ ∃(a : Nat), q332 a x ∧ (fo_vl (q274 x) 32 32 = fo_vl (q274 x) 32 32 ∧ fo_vi ((e : Int) - (1 : Int)) = fo_vi ↑a ∧ fo_vi (x.n + x.p) = fo_vi (x.n + x.p) ∧ True) ∧ Ent (q162 x F) (q162 x F) ∧ a < e) (q330 x F e)))) (q330 x F e)))) (Done sdCq x F (fo_rt (tuple ⟨[fo_vi 0, fo_vi ↑x.n]⟩)) [(0, fo_cl x.b x.vs x.t), (1, F)]) := by
  delta T64 q274 q332 q162 q175 T48 T67 q330 fo_rI fo_C3 fo_vi fo_vc fo_vu fo_vl fo_cl fo_Bd fo_rt fo_vA
  obtain ⟨t, vs, b, u, p, n⟩ := x
  obtain ⟨⟨h0⟩, h1, h2, h3, h4, h5⟩ := hc
  dsimp only at h0 h1 h2 h3 h4 h5 ⊢
  refine br_decide (λ_ => ⟨slq_ok rfl rfl rfl, ⟨some ⟨b, 0, none⟩, 32, 32, n⟩, rfl, ⟨by dsimp only; omega, by dsimp only; omega⟩, f10_ok, rfl, ⟨b, 32, n, 32, u, t⟩, rfl, by rw [h0], ⟨by dsimp only; omega, h2, h3, by dsimp only; omega⟩, fo_tv, λ_ _ => ⟨⟨by omega, by omega⟩, ⟨n, ⟨fo_nr _, rfl⟩, ⟨rfl, rfl, rfl, fo_tv⟩, Ent.pick [0, 1] rfl rfl⟩, ?_⟩⟩) (λq => (q (by omega)).elim)
  rintro k js ⟨h6, h7⟩
  cases k with
  | zero => exact br_decide (λq => absurd q (by omega)) (λ_ => ⟨(), fo_tv, by show _ = returned (.tuple #[.int .i64 (n + p), .int .i64 (trN u n n : Nat)]); rw [h7] <;> rfl, Ent.pick [0, 1] rfl rfl⟩)
  | succ k =>
    have e1 : (((k + 1 : Nat) : Int) - 1) = ((k : Nat) : Int) := by omega
    rw [e1]
    rw [trN] at h7
    refine br_decide (λ_ => ⟨⟨by omega, by omega⟩, ixq_ok 1 rfl rfl rfl rfl, ⟨b, 0, 32, 32, k⟩, rfl, ⟨by dsimp only; omega, by dsimp only; omega⟩, (((dgL u n).getD k 0 : Nat) : Int), ?_, ?_⟩) (λq => absurd (by omega) q)
    · refine Look.cells ?_
      rw [show 0 + ((k : Nat) : Int).toNat * 1 = k by omega]
      exact dzL_get (by omega)
    · rw [show ((((dgL u n).getD k 0 : Nat) : Int) == 48) = ((dgL u n).getD k 0 == 48) by rw [Bool.eq_iff_iff, beq_iff_eq, beq_iff_eq]; omega]
      refine br_intro (λq => ?_) (λq => ?_)
      · rw [q, fo_ct] at h7
        exact ⟨⟨by omega, by omega⟩, k, ⟨by omega, h7⟩, ⟨rfl, rfl, rfl, fo_tv⟩, Ent.pick [0, 1] rfl rfl, fo_ls _⟩
      · rw [q, fo_cf] at h7
        exact ⟨(), fo_tv, by show _ = returned (.tuple #[.int .i64 (n + p), .int .i64 (trN u n n : Nat)]); rw [h7], Ent.pick [0, 1] rfl rfl⟩
theorem sdq_ok : fo_k 250 sdCq := fo 36 Tryz.func250 sdOvq [] sdInvq fo_i fo_o [] sdq_vc
theorem ap_leaf {o : Oper} {r : Row} {l m : List Nat} {a : Addr} {c : Nat} {S : St} {K : ApX → Row → Prop} (ho : OpOk Tryz.prog o (apC 5 1 1)) (hr : IsRow 5 1 (u8s l) r) (hl : l.length ≤ 1000) (hm : m.length ≤ 1000) (hs : Seg (.pred (rest S [0])) a (u8s m)) (hk : ∀ y, IsRow 5 1 (u8s (l ++ m)) y → K ⟨r, u8s l, some a, m.length, c, u8s m⟩ y) :
    OpOk Tryz.prog o (apC 5 1 1) ∧ true = true ∧ ∃ x : ApX, [slice r.a r.n r.cap, slice (some a) m.length c] = [slice x.r.a x.r.n x.r.cap, slice x.a x.m x.c] ∧ [r.A] = [x.r.A] ∧
    (IsRow 5 1 x.cs x.r ∧ x.ys.length = x.m * 1 ∧ (∀ u ∈ x.ys, u.oneCell' = true) ∧ (x.r.n + x.m) * 1 ≤ 140737488355328 ∧ x.r.n + x.m ≤ 9223372036854775807 ∧ (x.a = none → x.m = 0 ∧ x.c = 0)) ∧
    (∀ a, x.a = some a → Seg (.pred (rest S [0])) a x.ys) ∧ ∀ y : Row, (IsRow 5 1 (x.cs ++ x.ys) y ∧ y.n = x.r.n + x.m ∧ (x.m = 0 → y = x.r)) → K x y := by
  have hn := hr.len
  rw [u8s_len] at hn
  refine ⟨ho, rfl, ⟨r, u8s l, some a, m.length, c, u8s m⟩, rfl, rfl, ⟨hr, by dsimp only; rw [u8s_len]; omega, λu hu => u8s_one hu, by dsimp only; omega, by dsimp only; omega, λe => by cases e⟩, λa' e => by cases e; exact hs, λy hy => hk y ?_⟩
  rw [u8s_app]
  exact hy.1
theorem seg_new {S : St} {b j : Nat} {vs ys : List Value} {t : TypeId} (hj : gt S j = .cells b vs t) (e : ys = vs) (hn : j ∉ [0]) : Seg (.pred (rest S [0])) ⟨b, 0, none⟩ ys := by
  subst e
  exact Seg.rest (j := j) hn (by rw [hj]; exact Seg.cells (λi u hi => by rw [fo_za]; exact hi))
def agC (n : Nat) : QCon where
  X := AdX
  args x := [.pointer (some x.a)]
  cond x := x.a.off = 0 ∧ x.a.spot = none
  val x := .slice (some x.a) n n
theorem ag_ok {P : Program} {o : Oper} {t e : TypeId} {n : Nat} {x : Operand} {inf : TypeInfo} (ho : o.op = .slice t x none none none) (ht : P.underlying t = some (.array (P.arrayLen t) (P.elem t))) (hn : P.arrayLen t = n) (he : P.elem t = e) (hi : P.info? e = some inf) : QOpOk P o (agC n) := by
  refine ⟨λq w ρ ha hc => ?_⟩
  obtain ⟨⟨b, off, spot⟩⟩ := q
  obtain ⟨rfl, rfl⟩ := hc
  simp only [ho, Op.operands, agC] at ha
  have ha2 : ρ x = .pointer (some ⟨b, 0, none⟩) := by simpa using ha
  have hr := run_sliceAt_array_all (P := P) w t ⟨b, 0, none⟩ ht
  rw [he, run_sizeOf w hi, hn] at hr
  simp [execOp, ho, ha2, hr, slicedAt, agC, Addr.add]
structure FeI where
  r : Row
  b : Nat
abbrev feIC : Con where
  X := FeI
  Y := Row
  args x := [.slice x.r.a x.r.n x.r.cap, .bool false, .slice (some ⟨x.b, 0, none⟩) 32 32, .int .i64 1, .int .i64 1, .int .i64 0, .int .u8 101, .bool true]
  pre x := [x.r.A]
  cond x := IsRow 5 1 [] x.r
  rdc x F := Look F ⟨x.b, 0, none⟩ (.int .u8 49)
  rel _ y := IsRow 5 1 (u8s [49, 101, 43, 48, 48]) y
  val _ y := .returned (.slice y.a y.n y.cap)
  post _ y := [y.A]
  rmono _ _ _ hs h := h.sub hs
abbrev q216 (d : Row) (F : Atom) (l i f c : Nat) := [(0, d.A), (1, F), (9020, fo_cl l [fo_vc 49] 5), (9050, fo_cl i [fo_vc 101] 5), (9060, fo_cl f [fo_vc 43] 5), (9070, fo_cl c [fo_vc 48, fo_vc ((1 : Int) - (1 : Int) + (48 : Int))] 5)]
theorem fei_vc (x : FeI) (F : Atom) (hc : feIC.cond x) (hr : feIC.rdc x F) :
 ((0 : Int) ≤ (0 : Int) ∧ 0 < (↑(32 : Nat) : Int)) ∧ Look F ⟨x.b, 0, none⟩ (fo_vc 49) ∧ ∀(l : Nat), T42 (opIn Tryz.f248 25 3) [fo_vl x.r.a x.r.n x.r.cap, fo_vl (q17 l) 1 1] [x.r.A] (fo_aR [(0, x.r.A), (1, F), (9020, fo_cl l [fo_vc 49] 5)] [0]) (λk j => ∀(i : Nat), T42 (opIn Tryz.f248 37 3) [fo_vl j.a j.n j.cap, fo_vl (q17 i) 1 1] [j.A] (fo_aR [(0, j.A), (1, F), (9020, fo_cl l [fo_vc 49] 5), (9050, fo_cl i [fo_vc 101] 5)] [0]) (λh g => fo_rI ((1 : Int) - (1 : Int)) ∧ ∀(f : Nat), T42 (opIn Tryz.f248 45 3) [fo_vl g.a g.n g.cap, fo_vl (q17 f) 1 1] [g.A] (fo_aR [(0, g.A), (1, F), (9020, fo_cl l [fo_vc 49] 5), (9050, fo_cl i [fo_vc 101] 5), (9060, fo_cl f [fo_vc 43] 5)] [0]) (λe d => ((0 : Int) ≤ (1 : Int) - (1 : Int) ∧ (1 : Int) - (1 : Int) ≤ (255 : Int)) ∧ ((0 : Int) ≤ (1 : Int) - (1 : Int) + (48 : Int) ∧ (1 : Int) - (1 : Int) + (48 : Int) ≤ (255 : Int)) ∧ ∀(c : Nat), T0 (opIn Tryz.f248 48 5) [fo_vl d.a d.n d.cap, fo_vl (q17 c) 2 2] [d.A] (fo_aR (q216 d F l i f c) [0]) (λb a => Done feIC x F (q137 a) (q216 a F l i f c))))) := by
  delta q293 q261 q135 q149 T42 q17 T0 q216 q137 fo_aR fo_rI fo_O4 fo_vc fo_vl fo_cl fo_rt
  obtain ⟨r, b⟩ := x
  have h0 : IsRow 5 1 (u8s []) r := hc
  exact ⟨by decide, hr, λb1 => ap_leaf (l := []) (m := [49]) (append_ok 1 1 rfl rfl rfl rfl rfl rfl rfl (by decide)) h0 (by decide) (by decide) (seg_new (j := 9020) rfl rfl (by decide)) λy1 h1 b2 => ap_leaf (l := [49]) (m := [101]) (append_ok 1 1 rfl rfl rfl rfl rfl rfl rfl (by decide)) h1 (by decide) (by decide) (seg_new (j := 9050) rfl rfl (by decide)) λy2 h2 => ⟨by decide, λb3 => ap_leaf (l := [49, 101]) (m := [43]) (append_ok 1 1 rfl rfl rfl rfl rfl rfl rfl (by decide)) h2 (by decide) (by decide) (seg_new (j := 9060) rfl rfl (by decide)) λy3 h3 => ⟨by decide, by decide, λb4 =>
    ap_leaf (l := [49, 101, 43]) (m := [48, 48]) (append_ok 1 1 rfl rfl rfl rfl rfl rfl rfl (by decide)) h3 (by decide) (by decide) (seg_new (j := 9070) rfl rfl (by decide)) λy4 h4 => ⟨y4, h4, rfl, Ent.pick [0, 1] rfl rfl⟩⟩⟩⟩
theorem fei_ok : fo_k 248 feIC := fo 272 Tryz.func248 (λ_ _ => [(24, 2, .q [.ex 1 (.is (.int .u8 49))]), (25, 2, .n 9020), (25, 3, .o (apC 5 1 1) [0] [0]), (37, 2, .n 9050), (37, 3, .o (apC 5 1 1) [0] [0]), (45, 2, .n 9060), (45, 3, .o (apC 5 1 1) [0] [0]), (48, 3, .ck), (48, 4, .n 9070), (48, 5, .o (apC 5 1 1) [0] [0])]) [] fo_i fo_i fo_o [] fei_vc
def gT : Glb := λb i => bif Nat.beq b 4 && Nat.beq i 15 then some (.int .u64 1000000000000000) else gP b i
theorem gT_gP {F : Atom} (h : gT.ok F) : gP.ok F := λb i v e => h b i v (by
  unfold gT
  cases hb : Nat.beq b 4 with
  | false => exact e
  | true =>
    have := Nat.eq_of_beq_eq_true hb
    subst this
    cases e)
abbrev ndI : Con := inC gT [.int .u64 1000000000000000] (.int .i64 16)
theorem ndI_ok : fo_k 175 ndI := FnOk.sim (by kernel_rfl) 4 12 (by kernel_rfl)
abbrev l6I : Con := inC noG [.int .u64 4503599627370496] (.int .i64 53)
theorem l6I_ok : fo_k 220 l6I := FnOk.sim (by kernel_rfl) 4 12 (by kernel_rfl)
structure RwX where
  r : Row
abbrev ftIC : Con where
  X := RwX
  Y := Row
  args x := [.slice x.r.a x.r.n x.r.cap, .float .f64 4607182418800017408, .int .u8 101, .int .i64 (-1)]
  pre x := [x.r.A]
  cond x := IsRow 5 1 [] x.r
  rdc _ F := gT.ok F
  rel _ y := IsRow 5 1 (u8s [49, 101, 43, 48, 48]) y
  val _ y := .returned (.slice y.a y.n y.cap)
  post _ y := [y.A]
  rmono _ _ _ hs h := λb i v e => (h b i v e).sub hs
structure FtI where
  b : Nat
  vs : List Value
  t : TypeId
def ftICut (x : RwX) (F : Atom) : Nat → Option Inv := fun
  | 34 => some { X := FtI, P := λd => Z32 d.vs, mu := λ_ => 0, lv := λd => [(0, .slice x.r.a x.r.n x.r.cap), (2, .int .u8 101), (3, .int .i64 (-1)), (11, .int .i64 52), (12, .int .i64 (-1023)), (13, .bool false), (14, .int .i64 0), (15, .int .u64 4503599627370496), (16, .pointer (some ⟨d.b, 0, none⟩))], st := λd => [x.r.A, F, .cells d.b d.vs d.t] }
  | _ => none
abbrev q284 (x : RwX) (F : Atom) (n : FtI) := fo_aR [(0, x.r.A), (1, F), (2, fo_cl n.b n.vs n.t)] []
def T68 (oo : Oper) (aa : List Value) (k0 : AdX → Prop) := QOpOk Tryz.prog oo (agC 32) ∧ ∃ (z : AdX), aa = [fo_vp (some z.a)] ∧ (z.a.off = 0 ∧ z.a.spot = none) ∧ k0 z
abbrev q294 : Unit → Atom → Prop := λ_ rr => gT.ok rr
abbrev q191 : List Value := [fo_vc (↑(49 : Nat) : Int), fo_vc (↑(101 : Nat) : Int), fo_vc (↑(43 : Nat) : Int), fo_vc (↑(48 : Nat) : Int), fo_vc (↑(48 : Nat) : Int)]
theorem fti_vc (x : RwX) (F : Atom) (hc : ftIC.cond x) (hr : ftIC.rdc x F) :
 fo_rI ((11 : Int) + (52 : Int)) ∧ true = true ∧ fo_rI ((↑(4607182418800017408 : Nat) : Int).fdiv ((2 : Int) ^ min (Int.toNat (52 : Int)) u64.bits)) ∧ fo_rI (fo_wi ((1 : Int) * (2 : Int) ^ min (Int.toNat (11 : Int)) i64.bits) - 1) ∧ fo_rI (fo_wi ((1 : Int) * (2 : Int) ^ min (Int.toNat (11 : Int)) i64.bits) - 1) ∧ fo_rI (fo_wi (↑(fo_bi ((↑(4607182418800017408 : Nat) : Int).fdiv ((2 : Int) ^ min (Int.toNat (52 : Int)) u64.bits)) &&& fo_bi (fo_wi ((1 : Int) * (2 : Int) ^ min (Int.toNat (11 : Int)) i64.bits) - 1)).toNat : Int) + (-1023 : Int)) ∧ (∀(b : Nat), ∃(a : FtI), Z32 a.vs ∧ (fo_vl x.r.a x.r.n x.r.cap = fo_vl x.r.a x.r.n x.r.cap ∧ fo_vc 101 = fo_vc 101 ∧ fo_vi (-1) = fo_vi (-1) ∧ fo_vi 52 = fo_vi 52 ∧ fo_vi (-1023) = fo_vi (-1023) ∧ fo_vb ((↑(4607182418800017408 : Nat) : Int).fdiv ((2 : Int) ^ min ((11 : Int) + (52 : Int)).toNat u64.bits) != 0) = fo_vb false ∧ fo_vi (fo_wi (↑(fo_bi ((↑(4607182418800017408 : Nat) : Int).fdiv ((2 : Int) ^ min (Int.toNat (52 : Int)) u64.bits)) &&& fo_bi (fo_wi ((1 : Int) * (2 : Int) ^ min (Int.toNat (11 : Int)) i64.bits) - 1)).toNat : Int) + (-1023 : Int)) = fo_vi 0 ∧ fo_vu (fo_wu (↑(fo_bu (fo_wu (↑(fo_bu (↑(4607182418800017408 : Nat) : Int) &&& fo_bu (fo_wu (fo_wu ((1 : Int) * (2 : Int) ^ min (Int.toNat (52 : Int)) u64.bits) - 1))).toNat : Int)) ||| fo_bu (fo_wu ((1 : Int) * (2 : Int) ^ min (Int.toNat (52 : Int)) u64.bits))).toNat : Int)) = fo_vu 4503599627370496 ∧ fo_vp (q17 b) = fo_vp (some ⟨a.b, 0, none⟩) ∧ True) ∧ Ent [(0, x.r.A), (1, F), (5000, fo_cl b (List.replicate 31 (fo_vc 0) ++ [fo_vc 0]) 276)] [(0, x.r.A), (1, F), (2, fo_cl a.b a.vs a.t)]) ∧ fo_vA λ(n : FtI) _ => Z32 n.vs → fo_C2 220 l6I q76 q60 [fo_vu 4503599627370496] (q284 x F n) (λl k => fo_rI ((64 : Int) - (53 : Int)) ∧ fo_rI ((0 : Int) - ((64 : Int) - (53 : Int))) ∧ fo_rI ((0 : Int) - ((64 : Int) - (53 : Int)) - 52) ∧ fo_C2 255 sfI q76 (λ_ rr => gP.ok rr) [fo_vu (fo_wu ((4503599627370496 : Int) * (2 : Int) ^ min ((64 : Int) - (53 : Int)).toNat u64.bits)), fo_vi ((0 : Int) - ((64 : Int) - (53 : Int)) - 52)] (q284 x F n) (λj i => true = true ∧ T68 (opIn Tryz.f208 38 0) [fo_vp (some ⟨n.b, 0, none⟩)] (λh => fo_C2 175 ndI q76 q294 [fo_vu 1000000000000000] (q284 x F n) (λg f => fo_C3 250 sdCq (λe => Z32 e.vs ∧ e.n ≤ 20 ∧ e.u < Nat.pow 10 e.n ∧ e.u < 18446744073709551616 ∧ (-100000 : Int) ≤ e.p ∧ e.p ≤ 100000) [fo_vl (some h.a) 32 32, fo_vu 1000000000000000, fo_vi (-15), fo_vi 16] [fo_cl n.b n.vs n.t] (λe d => fo_rI ((↑(trN e.u e.n e.n) : Int) - 1) ∧ T68 (opIn Tryz.f208 48 2) [fo_vp (some ⟨n.b, 0, none⟩)] (λc => fo_C4 248 feIC (λb => IsRow 5 1 [] b.r) (λb rr => Look rr ⟨b.b, 0, none⟩ (fo_vc 49)) (λ_ a => IsRow 5 1 q191 a) [fo_vl x.r.a x.r.n x.r.cap, fo_vb false, fo_vl (some c.a) 32 32, fo_vi (e.n + e.p), fo_vi (↑(trN e.u e.n e.n) : Int), fo_vi (if 0 > (↑(trN e.u e.n e.n) : Int) - 1 then (0 : Int) else (↑(trN e.u e.n e.n) : Int) - 1), fo_vc 101, fo_vb true] [x.r.A] (fo_aR [(0, x.r.A), (1, F), (2, fo_cl e.b (u8s (dzL e.u e.n 32)) e.t)] [0]) (λb a => Done ftIC x F (q137 a) [(0, a.A), (1, F), (2, fo_cl e.b (u8s (dzL e.u e.n 32)) e.t)]))))))) := by
  delta q17 q76 q60 q284 T68 q294 q191 q137 fo_aR fo_rI fo_C2 fo_C3 fo_C4 fo_vi fo_vc fo_vu fo_vb fo_vp fo_vl fo_cl fo_bu fo_bi fo_wu fo_wi fo_rt fo_vA
  obtain ⟨r⟩ := x
  have h0 : IsRow 5 1 [] r := hc
  have hT : gT.ok F := hr
  have ht : trN 1000000000000000 16 16 = 1 := by decide +kernel
  refine ⟨by decide, rfl, by decide, by decide, by decide, by decide, λb => ⟨⟨b, _, _⟩, ⟨rfl⟩, ⟨rfl, rfl, rfl, rfl, rfl, rfl, by kernel_rfl, by kernel_rfl, rfl, fo_tv⟩, Ent.pick [0, 1, 5000] rfl rfl⟩, ?_⟩
  rintro ⟨b, vs, t⟩ js hz
  refine ⟨l6I_ok, rfl, (), rfl, rfl, fo_tv, noG_ok, λ_ _ => ⟨by decide, by decide, by decide, sfi_ok, rfl, (), by kernel_rfl, rfl, fo_tv, (gT_gP hT).rest (j := 1) (by simp), λ_ _ => ⟨rfl, ag_ok rfl rfl rfl rfl rfl, ⟨⟨b, 0, none⟩⟩, rfl, ⟨rfl, rfl⟩, ndI_ok, rfl, (), rfl, rfl, fo_tv, hT.rest (j := 1) (by simp), λ_ _ =>
    ⟨sdq_ok, rfl, ⟨t, vs, b, 1000000000000000, -15, 16⟩, rfl, rfl, ⟨hz, (by decide : 16 ≤ 20), (by decide : 1000000000000000 < 10 ^ 16), (by decide : 1000000000000000 < 18446744073709551616), (by decide : (-100000 : Int) ≤ -15), (by decide : (-15 : Int) ≤ 100000)⟩, fo_tv, λ_ _ => ?_⟩⟩⟩⟩
  dsimp only
  rw [ht]
  exact ⟨by decide, ag_ok rfl rfl rfl rfl rfl, ⟨⟨b, 0, none⟩⟩, rfl, ⟨rfl, rfl⟩, fei_ok, rfl, ⟨r, b⟩, rfl, rfl, h0, Look.rest (j := 2) (by decide) (Look.cells (by kernel_rfl)), λy hy => ⟨y, hy, rfl, Ent.pick [0, 1] rfl rfl⟩⟩
theorem fti_ok : fo_k 208 ftIC := fo 298 Tryz.func208 (λ_ _ => [(33, 0, .n 5000), (34, 1, .c l6I [] []), (37, 4, .c sfI [] []), (38, 0, .qo (agC 32)), (38, 4, .c ndI [] []), (38, 5, .c sdCq [2] [2]), (48, 2, .qo (agC 32)), (48, 7, .c feIC [0] [0])]) [(9, 1, OH.q [])] fo_i ftICut fo_o [] fti_vc
abbrev ffI : Con := inC gT [.float .f64 4607182418800017408, .int .u8 101, .int .i64 (-1), .int .i64 64] (.string ⟨#[49, 101, 43, 48, 48]⟩)
abbrev q225 (b : B2X) := fo_rt (fo_vs (btL b.l))
theorem ffi_vc (x : PUnit) (F : Atom) (hc : ffI.cond x) (hr : ffI.rdc x F) :
 fo_rI ((-1 : Int) + (4 : Int)) ∧ T1 (opIn Tryz.f168 4 3) [fo_vi 0, fo_vi (if (24 : Int) > (-1 : Int) + (4 : Int) then (24 : Int) else (-1 : Int) + (4 : Int))] (λf e => fo_C4 208 ftIC (λd => IsRow 5 1 [] d.r) (λ_ rr => gT.ok rr) (λ_ c => IsRow 5 1 q191 c) [fo_vl (q17 e) f.n.toNat f.c.toNat, float f64 4607182418800017408, fo_vc 101, fo_vi (-1)] [fo_cl e (zeros [fo_vc 0] f.c.toNat) 5] (fo_aR [(0, F), (5000, fo_cl e (zeros [fo_vc 0] f.c.toNat) 5)] [5000]) (λd c => T4 (opIn Tryz.f168 4 8) [fo_vl c.a c.n c.cap] (fo_aR [(0, F), (5000, c.A)] []) (λb a => Done ffI x F (q225 b) [(0, F), (5000, c.A)]))) := by
  delta T1 q191 q17 T4 q225 fo_aR fo_rI fo_C4 fo_O1 fo_O2 fo_vi fo_vc fo_vs fo_vl fo_cl fo_rt
  have hT : gT.ok F := hr
  exact ⟨by decide, make_ok (P := Tryz.prog) [.int .u8 0] 1 rfl rfl rfl rfl rfl rfl (by simp) rfl, rfl, ⟨0, 24⟩, rfl, rfl, ⟨fo_ir _, by decide, by decide, by decide⟩, fo_tv, λb _ => ⟨fti_ok, rfl, ⟨⟨some ⟨b, 0, none⟩, 0, 24, .cells b (zeros [.int .u8 0] 24) 5⟩⟩, rfl, rfl, .blk b 0 24 (zeros [.int .u8 0] 24) rfl rfl (by decide), hT.rest (j := 0) (by decide), λy hy =>
    ⟨b2s_ok rfl rfl rfl rfl, rfl, ⟨y.a, y.n, y.cap, [49, 101, 43, 48, 48]⟩, rfl, rfl, hy.src, row_srcd 5000 (by decide) rfl hy, λ_ _ => ⟨(), fo_tv, rfl, Ent.pick [0] rfl rfl⟩⟩⟩⟩
theorem ffi_ok : fo_k 168 ffI := fo 33 Tryz.func168 (λ_ _ => [(4, 3, .o (mkC 5 [.int .u8 0] 1) [] [5000]), (4, 7, .c ftIC [5000] [5000]), (4, 8, .o b2sC [] [])]) [] fo_i fo_i fo_o [] ffi_vc
abbrev q297 : List Value := [float f64 4607182418800017408, fo_vc 101, fo_vi (-1), fo_vi 64]
theorem fgi_vc (x : PUnit) (F : Atom) (hc : ffI.cond x) (hr : ffI.rdc x F) :
 fo_C2 168 ffI q76 q294 q297 (q114 F) (λb a => Done ffI x F (fo_rt (fo_vs ⟨#[49, 101, 43, 48, 48]⟩)) [(0, F)]) := by
  delta q76 q294 q297 q114 fo_aR fo_C2 fo_vi fo_vc fo_vs fo_rt
  have hT : gT.ok F := hr
  exact ⟨ffi_ok, rfl, (), rfl, rfl, fo_tv, hT.rest (j := 0) (by simp), λ_ _ => ⟨(), fo_tv, rfl, Ent.pick [0] rfl rfl⟩⟩
theorem fgi_ok : fo_k 117 ffI := fo 14 Tryz.func117 (λ_ _ => [(1, 4, .c ffI [] [])]) [] fo_i fo_i fo_o [] fgi_vc
abbrev ctI : Con := inC noG [.string ⟨#[49, 101, 43, 48, 48]⟩, .string ⟨#[101]⟩] (.tuple #[.string ⟨#[49]⟩, .string ⟨#[43, 48, 48]⟩, .bool true])
theorem ctI_ok : fo_k 42 ctI := FnOk.sim (by kernel_rfl) 8 12 (by kernel_rfl)
abbrev rpI : Con := inC noG [.string ⟨#[49]⟩, .string ⟨#[46]⟩, .string ⟨#[]⟩, .int .i64 1] (.string ⟨#[49]⟩)
theorem rpI_ok : fo_k 120 rpI := FnOk.sim (by kernel_rfl) 8 12 (by kernel_rfl)
abbrev lyI : Con := inC noG [.string ⟨#[49]⟩, .int .i64 1] (.string ⟨#[49]⟩)
theorem lyI_ok : fo_k 119 lyI := FnOk.sim (by kernel_rfl) 8 12 (by kernel_rfl)
abbrev infI : Con := inC noG [.float .f64 4607182418800017408, .int .i64 1] (.bool false)
theorem infI_ok : fo_k 72 infI := FnOk.sim (by kernel_rfl) 8 12 (by kernel_rfl)
abbrev ntI : Con := inC gT [.float .f64 4607182418800017408] (.string ⟨#[49]⟩)
theorem nti_vc (x : PUnit) (F : Atom) (hc : ntI.cond x) (hr : ntI.rdc x F) :
 fo_C2 72 infI q76 q60 [float f64 4607182418800017408, fo_vi 1] (q114 F) (λl k => fo_C2 117 ffI q76 q294 q297 (q114 F) (λj i => fo_C2 42 ctI q76 q60 [fo_vs ⟨#[49, 101, 43, 48, 48]⟩, fo_vs ⟨#[101]⟩] (q114 F) (λh g => fo_C1 118 aiC (λf => AtOk f.s) [fo_vs ⟨#[43, 48, 48]⟩] (λf e => fo_C2 120 rpI q76 q60 [fo_vs ⟨#[49]⟩, fo_vs ⟨#[46]⟩, fo_vs ⟨#[]⟩, fo_vi 1] (q114 F) (λd c => fo_rI (atVq f.s + 1) ∧ fo_C2 119 lyI q76 q60 [fo_vs ⟨#[49]⟩, fo_vi (atVq f.s + 1)] (q114 F) (λb a => Done ntI x F (fo_rt (fo_vs ⟨#[49]⟩)) [(0, F)])))))) := by
  delta q76 q60 q114 q294 q297 fo_aR fo_rI fo_C1 fo_C2 fo_vi fo_vc fo_vs fo_rt
  have hT : gT.ok F := hr
  have ha : atVq ⟨#[43, 48, 48]⟩ = 0 := by decide +kernel
  refine ⟨infI_ok, rfl, (), rfl, rfl, fo_tv, noG_ok, λ_ _ => ⟨fgi_ok, rfl, (), rfl, rfl, fo_tv, hT.rest (j := 0) (by simp), λ_ _ => ⟨ctI_ok, rfl, (), rfl, rfl, fo_tv, noG_ok, λ_ _ =>
    ⟨ao_ok, rfl, ⟨⟨#[43, 48, 48]⟩⟩, rfl, rfl, ⟨by decide, by decide, by decide, by decide +kernel⟩, fo_tv, λ_ _ => ⟨rpI_ok, rfl, (), rfl, rfl, fo_tv, noG_ok, λ_ _ => ?_⟩⟩⟩⟩⟩
  dsimp only
  rw [ha]
  exact ⟨by decide, lyI_ok, rfl, (), rfl, rfl, fo_tv, noG_ok, λ_ _ => ⟨(), fo_tv, rfl, Ent.pick [0] rfl rfl⟩⟩
theorem nti_ok : fo_k 73 ntI := fo 42 Tryz.func73 (λ_ _ => [(7, 1, .c infI [] []), (9, 1, .c ffI [] []), (9, 2, .c ctI [] []), (10, 1, .c aiC [] []), (11, 1, .c rpI [] []), (11, 4, .c lyI [] [])]) [] fo_i fo_i fo_o [] nti_vc
end
section
open Go
set_option maxHeartbeats 1000000
structure Tg where
  c0 : Int
  s : ByteArray
  q : ByteArray
  h : Nat
  Rd : Atom → Prop
def Tg.f (g : Tg) : Nat := bif g.c0 == 3 then 4607182418800017408 else 0
def Tg.v (g : Tg) : Value := .agg #[.int .i64 g.c0, .float .f64 g.f, .string g.s, .int .i64 0]
inductive Tg.good : Tg → Prop
  | tx (h : Nat) (w : ByteArray) (hw : w.size ≤ 1048576) : Tg.good ⟨4, w, quV w, h, λ_ => True⟩
  | ob (h : Nat) (y : HaY) (l : TVs) (h1 : l.length ≤ 10000) (h2 : ∀ p ∈ l, p.1.size ≤ 1048576 ∧ p.2.size ≤ 1048576) (h3 : (l.map (·.1)).Nodup) : Tg.good ⟨5, ⟨#[]⟩, obV quV l, h, HoIn y h (tvL l)⟩
  | nm (h : Nat) : Tg.good ⟨3, ⟨#[]⟩, wideV ⟨#[49]⟩, h, gT.ok⟩
theorem Tg.good.sub {g : Tg} (h : g.good) {A B : Atom} (hs : Sub A B) (hr : g.Rd A) : g.Rd B := by
  cases h with
  | tx => trivial
  | ob => exact HoIn.sub hs hr
  | nm => exact λb i v e => (hr b i v e).sub hs
structure TgX where
  b : Nat
  t : ByteArray
  g : Tg
def n1V : Value := .agg #[.int .i64 3, .float .f64 4607182418800017408, .string ⟨#[]⟩, .int .i64 0]
abbrev sinC : Con where
  X := B1
  Y := Unit
  args x := [.pointer (some ⟨x.b, 0, none⟩), n1V]
  pre _ := []
  cond _ := True
  rdc _ _ := True
  rel _ _ := True
  val _ _ := .returned (.bool false)
  post _ _ := []
abbrev q34 : List Value := [fo_vi 3, float f64 4607182418800017408, fo_vs ⟨#[]⟩, fo_vi 0]
theorem sin_vc (x : B1) (F : Atom) (hc : sinC.cond x) (hr : sinC.rdc x F) :
 ∀(a : Nat), true = true ∧ fo_sm a 0 ∧ fo_sm a 0 ∧ fo_sm a 0 ∧ Done sinC x F q54 [(0, F), (1000, fo_cl a q34 30)] := by
  delta q54 q34 fo_sm fo_vi fo_vs fo_vb fo_cl fo_rt
  intro b
  exact ⟨rfl, ⟨rfl, rfl⟩, ⟨rfl, rfl⟩, ⟨rfl, rfl⟩, (), fo_tv, rfl, Ent.pick [0] rfl rfl⟩
theorem sin_ok : fo_k 26 sinC := fo 28 Tryz.func26 (λ_ _ => [(0, 0, .n 1000)]) [(1, 1, OH.q [LH.aq (1000 : Nat)]), (1, 5, OH.q [LH.aq (1000 : Nat)]), (1, 10, OH.q [LH.aq (1000 : Nat)])] fo_i fo_i fo_o [] sin_vc
abbrev if0I : Con := inC noG [.float .f64 4607182418800017408, .int .i64 0] (.bool false)
theorem if0I_ok : fo_k 72 if0I := FnOk.sim (by kernel_rfl) 8 12 (by kernel_rfl)
abbrev vnoC : Con where
  X := JsX
  Y := Unit ⊕ Unit
  args x := [.pointer (some ⟨x.j.b, 0, none⟩), n1V]
  pre x := [jwA x.j x.t]
  cond x := x.t.size ≤ 1048576
  rdc _ F := Utf F ∧ gT.ok F
  rel x y := match y with
    | .inl _ => (x.t ++ wideV ⟨#[49]⟩).size ≤ 16384
    | .inr _ => 16384 < (x.t ++ wideV ⟨#[49]⟩).size
  val _ y := match y with
    | .inl _ => .returned (.tuple #[])
    | .inr _ => .panicked [⟨eqV 112, false, false⟩]
  post x y := match y with
    | .inl _ => [jwA x.j (x.t ++ wideV ⟨#[49]⟩)]
    | .inr _ => []
  rmono _ _ _ hs h := ⟨h.1.sub hs, λb i v e => (h.2 b i v e).sub hs⟩
  sum := some (sumS Unit Unit)
abbrev q231 (x : JsX) (F : Atom) (g : Nat) := [(0, fo_pr (Ex.rest (x.j.R x.t) x.j.B)), (1, F), (1000, fo_cl g q34 30)]
abbrev q348 (b : JsX) (F : Atom) (g : Nat) := [(0, fo_pr (Ex.rest (b.j.R (b.t ++ wideV b.s)) b.j.B)), (1, F), (1000, fo_cl g q34 30)]
theorem vno_vc (x : JsX) (F : Atom) (hc : vnoC.cond x) (hr : vnoC.rdc x F) :
 ∀(g : Nat), fo_sm g 0 ∧ fo_sm g 1 ∧ fo_sm g 1 ∧ fo_sm g 1 ∧ fo_C2 72 if0I q76 q60 [float f64 4607182418800017408, fo_vi 0] (fo_aR (q231 x F g) []) (λf e => fo_sm g 1 ∧ fo_C2 73 ntI q76 q294 [float f64 4607182418800017408] (fo_aR (q231 x F g) []) (λd c => T57 [fo_vp (some ⟨x.j.b, 0, none⟩), fo_vs ⟨#[49]⟩] [fo_pr (Ex.rest (x.j.R x.t) x.j.B)] (fo_aR (q231 x F g) [0]) (λb a => Done vnoC x F q74 (q348 b F g)) (λb a => Done vnoC x F q36 (q348 b F g)))) := by
  delta q76 q60 q34 q231 q294 T57 q74 q348 q36 fo_aR fo_sm fo_C2 fo_vi fo_vs fo_vp fo_vf fo_cl fo_pr fo_rt
  obtain ⟨hu, hT⟩ := hr
  have hu : Utf F := hu
  have hT : gT.ok F := hT
  have hc : x.t.size ≤ 1048576 := hc
  exact λb => ⟨⟨rfl, rfl⟩, ⟨rfl, rfl⟩, ⟨rfl, rfl⟩, ⟨rfl, rfl⟩, if0I_ok, rfl, (), rfl, rfl, fo_tv, noG_ok, λ_ _ => ⟨⟨rfl, rfl⟩, nti_ok, rfl, (), rfl, rfl, fo_tv, hT.rest (j := 1) (by simp), λ_ _ =>
    ⟨say_ok, rfl, ⟨x.j, x.t, ⟨#[49]⟩⟩, rfl, rfl, ⟨hc, (by decide : 1 ≤ 1048576)⟩, Utf.rest (j := 1) (by simp) hu, λ_ h => ⟨.inl (), h, rfl, Ent.pick [0, 1] rfl rfl⟩, λ_ h => ⟨.inr (), h, rfl, Ent.pick [1] rfl rfl⟩⟩⟩⟩
theorem vno_ok : fo_k 27 vnoC := fo 50 Tryz.func27 (λ_ _ => [(0, 0, .n 1000), (9, 8, .c if0I [] []), (11, 3, .c ntI [] []), (11, 4, .c sayC [0] [0])]) [(1, 1, OH.q [LH.aq (1000 : Nat)]), (9, 1, OH.q [LH.aq (1000 : Nat)]), (9, 3, OH.q [LH.aq (1000 : Nat)]), (9, 7, OH.q [LH.aq (1000 : Nat)]), (11, 2, OH.q [LH.aq (1000 : Nat)])] fo_i fo_i fo_o [] vno_vc
abbrev tsilC : Con where
  X := TgX
  Y := Unit
  args x := [.pointer (some ⟨x.b, 0, none⟩), x.g.v]
  pre _ := []
  cond x := x.g.good
  rdc x F := Look F ⟨x.b, 0, none⟩ (.pointer (some ⟨x.g.h, 0, none⟩)) ∧ x.g.Rd F ∧ x.g.good
  rel _ _ := True
  val _ _ := .returned (.bool false)
  post _ _ := []
  rmono _ _ _ hs h := ⟨h.1.sub hs, h.2.2.sub hs h.2.1, h.2.2⟩
theorem tsil_ok : fo_k 26 tsilC := ⟨λx F I w hc hr hs => by
  obtain ⟨b, t, g⟩ := x
  obtain ⟨r1, r2, -⟩ := hr
  have hc : g.good := hc
  cases hc with
  | tx h w2 hw => exact sil_ok.h ⟨b, w2⟩ F I w trivial trivial hs
  | ob h y l h1 h2 h3 => exact sio_ok.h ⟨b, h, y, tvL l⟩ F I w trivial ⟨r1, r2⟩ hs
  | nm h => exact sin_ok.h ⟨b⟩ F I w trivial trivial hs⟩
abbrev tvatC : Con where
  X := TgX
  Y := JwX ⊕ Unit
  args x := [.pointer (some ⟨x.b, 0, none⟩), x.g.v]
  pre x := [jwA (jw0 x.b x.g.h) x.t]
  cond x := x.g.good ∧ x.t.size ≤ 16384
  rdc x F := Utf F ∧ x.g.Rd F ∧ x.g.good
  rel x y := match y with
    | .inl _ => (x.t ++ x.g.q).size ≤ 16384
    | .inr _ => 16384 < (x.t ++ x.g.q).size
  val _ y := match y with
    | .inl _ => .returned (.tuple #[])
    | .inr _ => .panicked [⟨eqV 112, false, false⟩]
  post x y := match y with
    | .inl z => [jwA ((jw0 x.b x.g.h).st z.a z.n z.c) (x.t ++ x.g.q)]
    | .inr _ => []
  rmono _ _ _ hs h := ⟨h.1.sub hs, h.2.2.sub hs h.2.1, h.2.2⟩
  sum := some (sumS JwX Unit)
abbrev vobC : Con := { obC with args := λx => [.pointer (some ⟨x.b, 0, none⟩), obVv] }
abbrev q259 (x : ObX) (F : Atom) (c : Nat) := fo_aR [(0, fo_pr (Ex.rest ((jw0 x.b x.h).R x.t) (jw0 x.b x.h).B)), (1, F), (1000, fo_cl c q12 30)] [0]
theorem vob_vc (x : ObX) (F : Atom) (hc : vobC.cond x) (hr : vobC.rdc x F) :
 ∀(c : Nat), fo_sm c 0 ∧ fo_sm c 3 ∧ fo_k 75 obC ∧ true = true ∧ ∃(b : ObX), [fo_vp (q108 x), fo_vi 0] = [fo_vp (q108 b), fo_vi 0] ∧ [fo_pr (Ex.rest ((jw0 x.b x.h).R x.t) (jw0 x.b x.h).B)] = [fo_pr (Ex.rest ((jw0 b.b b.h).R b.t) (jw0 b.b b.h).B)] ∧ (b.t.size ≤ 16384 ∧ List.length b.l ≤ 10000 ∧ (∀(a : ByteArray × ByteArray), a ∈ b.l → a.fst.size ≤ 1048576 ∧ a.snd.size ≤ 1048576) ∧ (List.map (λ(a : ByteArray × ByteArray) => a.fst) b.l).Nodup) ∧ (Utf (q259 x F c) ∧ HoIn b.y b.h (tvL b.l) (q259 x F c)) ∧ (∀(a : JwX), (b.t ++ obV quV b.l).size.le 16384 → Done vobC x F q74 [(0, fo_pr (Ex.rest (((jw0 b.b b.h).st a.a a.n a.c).R (b.t ++ obV quV b.l)) ((jw0 b.b b.h).st a.a a.n a.c).B)), (1, F), (1000, fo_cl c q12 30)]) ∧ ∀(a : Unit), Nat.le 16385 (b.t ++ obV quV b.l).size → Done vobC x F q36 [(0, fo_em), (1, F), (1000, fo_cl c q12 30)] := by
  delta q108 q12 q259 q74 q36 fo_aR fo_sm fo_vi fo_vs fo_vp fo_vf fo_cl fo_pr fo_em fo_rt
  obtain ⟨b, h, t, y, l⟩ := x
  obtain ⟨hu, hh⟩ := hr
  have hu : Utf F := hu
  have hh : HoIn y h (tvL l) F := hh
  intro d
  exact ⟨⟨rfl, rfl⟩, ⟨rfl, rfl⟩, ob_ok, rfl, ⟨b, h, t, y, l⟩, rfl, rfl, hc, ⟨Utf.rest (j := 1) (by simp) hu, hh.sub (sub_rest (A := F) 1 (by simp) rfl)⟩, λz g => ⟨.inl z, g, rfl, Ent.pick [0, 1] rfl rfl⟩, λ_ g => ⟨.inr (), g, rfl, Ent.pick [1] rfl rfl⟩⟩
theorem vob_ok : fo_k 27 vobC := fo 50 Tryz.func27 (λ_ _ => [(0, 0, .n 1000), (15, 3, .c obC [0] [0])]) [(1, 1, OH.q [LH.aq (1000 : Nat)]), (15, 2, OH.q [LH.aq (1000 : Nat)])] fo_i fo_i fo_o [] vob_vc
theorem tvat_ok : fo_k 27 tvatC := ⟨λx F I w hc hr hs => by
  obtain ⟨b, t, g⟩ := x
  obtain ⟨r1, r2, -⟩ := hr
  obtain ⟨hc, ht⟩ := hc
  have hc : g.good := hc
  have ht : t.size ≤ 16384 := ht
  cases hc with
  | tx h w2 hw =>
    refine (vat_ok.h ⟨jw0 b h, t, w2⟩ F I w ⟨by dsimp only; omega, hw⟩ r1 hs).mono λe w' ⟨y, J, k1, k2, k3, k4, k5⟩ => ?_
    match y with
    | .inl _ => exact ⟨.inl (jw0 b h), J, k1, k2, k3, k4, k5⟩
    | .inr _ => exact ⟨.inr (), J, k1, k2, k3, k4, k5⟩
  | ob h y l h1 h2 h3 => exact vob_ok.h ⟨b, h, t, y, l⟩ F I w ⟨ht, h1, h2, h3⟩ ⟨r1, r2⟩ hs
  | nm h =>
    refine (vno_ok.h ⟨jw0 b h, t, ⟨#[]⟩⟩ F I w (show t.size ≤ 1048576 by omega) ⟨r1, r2⟩ hs).mono λe w' ⟨y, J, k1, k2, k3, k4, k5⟩ => ?_
    match y with
    | .inl _ => exact ⟨.inl (jw0 b h), J, k1, k2, k3, k4, k5⟩
    | .inr _ => exact ⟨.inr (), J, k1, k2, k3, k4, k5⟩⟩
abbrev bs4P : Con where
  X := JsX
  Y := Unit
  args x := [.pointer (some ⟨x.j.b, 1, none⟩)]
  pre x := [jwA x.j x.t]
  cond x := x.t.size ≤ 140737488355328
  rdc _ _ := True
  rel _ _ := True
  val x _ := .returned (.string x.t)
  post _ _ := []
theorem bs4p_ok : fo_k 29 bs4P := ⟨λx F I w hc _ hs => by
  obtain ⟨y, hy, hs⟩ := ex_open hs
  refine (bs4_ok.h ⟨x.j.b, .pointer (some x.j.h), y.p, y.r, .slice x.j.a x.j.n x.j.c, x.t, x.s⟩ F I w ⟨hy.2, hc⟩ trivial hs).mono λe w' ⟨_, J, _, k2, k3, k4, k5⟩ => ?_
  exact ⟨(), J, fo_tv, k2, k3, k4.pick [2] rfl rfl, k5⟩⟩
abbrev tfC : Con where
  X := ByteArray
  Y := Unit
  args x := [.string x]
  pre _ := []
  cond _ := True
  rdc _ _ := True
  rel _ _ := True
  val x _ := .returned (txV x)
  post _ _ := []
abbrev q244 (x : ByteArray) : List Value := [fo_vi 4, float f64 0, fo_vs x, fo_vi 0]
theorem tf_vc (x : ByteArray) (F : Atom) (hc : tfC.cond x) (hr : tfC.rdc x F) :
 ∀(a : Nat), fo_sm a 0 ∧ fo_sm a 1 ∧ fo_sm a 2 ∧ fo_sm a 3 ∧ fo_sm a 0 ∧ fo_sm a 1 ∧ fo_sm a 2 ∧ fo_sm a 3 ∧ Done tfC x F (fo_rt (agg ⟨q244 x⟩)) [(0, F), (1000, fo_cl a (q244 x) 30)] := by
  delta q244 fo_sm fo_vi fo_vs fo_cl fo_rt
  intro b
  exact ⟨⟨rfl, rfl⟩, ⟨rfl, rfl⟩, ⟨rfl, rfl⟩, ⟨rfl, rfl⟩, ⟨rfl, rfl⟩, ⟨rfl, rfl⟩, ⟨rfl, rfl⟩, ⟨rfl, rfl⟩, (), fo_tv, rfl, Ent.pick [0] rfl rfl⟩
theorem tf_ok : fo_k 28 tfC := fo 5 Tryz.func28 (λ_ _ => [(0, 0, .n 1000), (1, 2, .w [.aq 1000, .aq 1000, .aq 1000, .aq 1000])]) [] fo_i fo_i fo_o [LH.aq 1000, LH.aq 1000, LH.aq 1000, LH.aq 1000] tf_vc
abbrev tbC : Con where
  X := WdX
  Y := Unit
  args x := [.string x.s]
  pre _ := []
  cond x := x.s.size ≤ 1048576
  rdc _ F := Utf F
  rel _ _ := True
  val x _ := .returned (txV (wideV x.s))
  post _ _ := []
  rmono _ _ _ hs h := h.sub hs
def T69 := fo_C2 97 wC q238 (λ_ => Utf)
abbrev q42 (b : WdX) : List Value := [fo_vi 4, float f64 0, fo_vs (wideV b.s), fo_vi 0]
theorem tb_vc (x : WdX) (F : Atom) (hc : tbC.cond x) (hr : tbC.rdc x F) :
 ∀(c : Nat), T69 [fo_vs x.s] (q316 F c) (λb a => fo_sm c 0 ∧ fo_sm c 1 ∧ fo_sm c 2 ∧ fo_sm c 3 ∧ fo_sm c 0 ∧ fo_sm c 1 ∧ fo_sm c 2 ∧ fo_sm c 3 ∧ Done tbC x F (fo_rt (agg ⟨q42 b⟩)) [(0, F), (1000, fo_cl c (q42 b) 30)]) := by
  delta q238 T69 q8 q316 q42 fo_aR fo_sm fo_C2 fo_vi fo_vs fo_cl fo_rt
  have hr : Utf F := hr
  intro b
  exact ⟨wl_ok, rfl, ⟨x.s⟩, rfl, rfl, hc, Utf.rest (j := 0) (by simp) hr, λ_ _ => ⟨⟨rfl, rfl⟩, ⟨rfl, rfl⟩, ⟨rfl, rfl⟩, ⟨rfl, rfl⟩, ⟨rfl, rfl⟩, ⟨rfl, rfl⟩, ⟨rfl, rfl⟩, ⟨rfl, rfl⟩, (), fo_tv, rfl, Ent.pick [0] rfl rfl⟩⟩
theorem tb_ok : fo_k 51 tbC := fo 6 Tryz.func51 (λ_ _ => [(0, 0, .n 1000), (1, 1, .c wC [] []), (1, 3, .w [.aq 1000, .aq 1000, .aq 1000, .aq 1000])]) [] fo_i fo_i fo_o [LH.aq 1000, LH.aq 1000, LH.aq 1000, LH.aq 1000] tb_vc
end
section
open Go
set_option maxHeartbeats 1000000
def cHd : Code → Code
  | .seq a _ => a
  | c => c
def cTl : Nat → Code → Code
  | 0, c => c
  | n + 1, .seq _ b => cTl n b
  | _ + 1, c => c
noncomputable def stc : Code := codeOf Tryz.f12
noncomputable def sta : Func := { Tryz.f12 with body := some (.seq (cHd stc) (.region 1 #[] false)) }
noncomputable def stb : Func := { Tryz.f12 with body := some (.seq .skip (cTl 2 stc)) }
noncomputable def std : Func := { Tryz.f25 with body := some (.seq .skip (cTl 1 (codeOf Tryz.f25))) }
abbrev staC : Con where
  X := Tg
  Y := Unit
  args x := [.pointer (some ⟨x.h, 0, none⟩), .agg #[.int .i64 x.c0, .float .f64 x.f, .string x.s, .int .i64 0]]
  pre _ := []
  cond _ := True
  rdc _ _ := True
  rel _ _ := False
  val _ _ := .returned (.tuple #[])
  post _ _ := []
structure St3 where
  b3 : Nat
  b4 : Nat
  b5 : Nat
def staCut (x : Tg) (F : Atom) : Nat → Option Inv := fun
  | 1 => some { X := St3, P := λ_ => True, mu := λ_ => 0, lv := λd => [(0, .pointer (some ⟨x.h, 0, none⟩)), (3, .pointer (some ⟨d.b3, 0, none⟩)), (4, .pointer (some ⟨d.b4, 0, none⟩)), (5, .pointer (some ⟨d.b5, 0, none⟩))], st := λd => [F, .cells d.b3 [.int .i64 x.c0, .float .f64 x.f, .string x.s, .int .i64 0] 30, .cells d.b4 [.int .i64 0, .float .f64 0, .string ⟨#[]⟩, .int .i64 0] 30, .cells d.b5 [.int .i64 0] 32] }
  | _ => none
def staOv (_x : Tg) (_F : Atom) : List (Nat × Nat × OH) := [(0, 0, .n 1000), (0, 1, .n 1010), (0, 2, .n 1020)]
def rh5 : List LH := [.aq 3, .aq 3, .aq 3, .aq 3, .aq 4]
def staL (_ : Tg) : List (Nat × Value) := []
noncomputable def sta_H (x : Con.X staC) (F : Atom) : Hints where
  op := hk ((staOv x F) ++ [])
  inv := (λ_ _ _ => none) x F
  cut := staCut x F
  ord := (λ_ => [])
abbrev q129 (x : Tg) : List Value := [fo_vi x.c0, float f64 x.f, fo_vs x.s, fo_vi 0]
theorem sta_vc (x : Tg) (F : Atom) (hc : staC.cond x) (hr : staC.rdc x F) :
 (∀(d c b : Nat), ∃(a : St3), True ∧ (fo_vp (some ⟨x.h, 0, none⟩) = fo_vp (some ⟨x.h, 0, none⟩) ∧ fo_vp (q17 d) = fo_vp (some ⟨a.b3, 0, none⟩) ∧ fo_vp (q17 c) = fo_vp (some ⟨a.b4, 0, none⟩) ∧ fo_vp (q17 b) = fo_vp (some ⟨a.b5, 0, none⟩) ∧ True) ∧ Ent [(0, F), (1000, fo_cl d (q129 x) 30), (1010, fo_cl c q8 30), (1020, fo_cl b [fo_vi 0] 32)] [(0, F), (1, fo_cl a.b3 (q129 x) 30), (2, fo_cl a.b4 q8 30), (3, fo_cl a.b5 [fo_vi 0] 32)]) ∧ fo_vA λ(b : St3) _ => True → True := by
  delta q17 q129 q8 fo_vi fo_vs fo_vp fo_cl fo_vA
  exact ⟨λb b1 b2 => ⟨⟨b, b1, b2⟩, fo_tv, ⟨rfl, rfl, rfl, rfl, fo_tv⟩, Ent.pick [0, 1000, 1010, 1020] rfl rfl⟩, λ_ _ _ => fo_tv⟩
theorem sta_body (x : Con.X staC) (F : Atom) (hc : staC.cond x) (hr : staC.rdc x F) : BodyD Tryz.prog 23 sta (sta_H x F) rh5 (codeOf sta) (ent (Con.args staC x)) (ofL (Con.pre staC x ++ [F])) (staL x) (Done staC x F) :=
  Eq.mpr (by kernel_rfl) (sta_vc x F hc hr)
structure SbX where
  g : Tg
  b3 : Nat
  b4 : Nat
  b5 : Nat
abbrev stbC : Con where
  X := SbX
  Y := Unit ⊕ Unit
  args x := [.pointer (some ⟨x.g.h, 0, none⟩), undef, undef, .pointer (some ⟨x.b3, 0, none⟩), .pointer (some ⟨x.b4, 0, none⟩), .pointer (some ⟨x.b5, 0, none⟩)]
  pre x := [.cells x.b3 [.int .i64 x.g.c0, .float .f64 x.g.f, .string x.g.s, .int .i64 0] 30, .cells x.b4 [.int .i64 0, .float .f64 0, .string ⟨#[]⟩, .int .i64 0] 30, .cells x.b5 [.int .i64 0] 32]
  cond x := x.g.good
  rdc x F := Utf F ∧ x.g.Rd F ∧ x.g.good
  rel x y := match y with
    | .inl _ => x.g.q.size ≤ 16384
    | .inr _ => 16384 < x.g.q.size
  val x y := match y with
    | .inl _ => .returned (.tuple #[txV x.g.q, .int .i64 0])
    | .inr _ => .panicked [⟨eqV 112, false, false⟩]
  post x y := match y with
    | .inl _ => []
    | .inr _ => [.cells x.b4 [.int .i64 0, .float .f64 0, .string ⟨#[]⟩, .int .i64 0] 30, .cells x.b5 [.int .i64 0] 32]
  rmono _ _ _ hs h := ⟨h.1.sub hs, h.2.2.sub hs h.2.1, h.2.2⟩
  sum := some (sumS Unit Unit)
def stbCut (x : SbX) (F : Atom) : Nat → Option Inv := fun
  | 2 => some { X := Unit, P := λ_ => True, mu := λ_ => 0, lv := λ_ => [(0, .pointer (some ⟨x.g.h, 0, none⟩)), (3, .pointer (some ⟨x.b3, 0, none⟩)), (4, .pointer (some ⟨x.b4, 0, none⟩)), (5, .pointer (some ⟨x.b5, 0, none⟩))], st := λ_ => [F, .cells x.b3 [.int .i64 x.g.c0, .float .f64 x.g.f, .string x.g.s, .int .i64 0] 30, .cells x.b4 [.int .i64 0, .float .f64 0, .string ⟨#[]⟩, .int .i64 0] 30, .cells x.b5 [.int .i64 0] 32] }
  | 3 => some { X := Nat, P := λ_ => True, mu := λ_ => 0, lv := λd => [(3, .pointer (some ⟨x.b3, 0, none⟩)), (4, .pointer (some ⟨x.b4, 0, none⟩)), (5, .pointer (some ⟨x.b5, 0, none⟩)), (6, .pointer (some ⟨d, 0, none⟩))], st := λd => [jwA (jw0 d x.g.h) ⟨#[]⟩, F, .cells x.b3 [.int .i64 x.g.c0, .float .f64 x.g.f, .string x.g.s, .int .i64 0] 30, .cells x.b4 [.int .i64 0, .float .f64 0, .string ⟨#[]⟩, .int .i64 0] 30, .cells x.b5 [.int .i64 0] 32] }
  | _ => none
def stbOv (_x : SbX) (_F : Atom) : List (Nat × Nat × OH) := [(2, 2, .n 2020), (3, 1, .q [.aq 2, .aq 2, .aq 2, .aq 2]), (3, 2, .c tsilC [] []), (5, 1, .q [.aq 2, .aq 2, .aq 2, .aq 2]), (5, 2, .c tvatC [0] [0]), (6, 3, .c bs4P [0] []), (6, 4, .c tfC [] []), (6, 5, .w [.aq 3, .aq 3, .aq 3, .aq 3]), (6, 6, .w [.aq 4])]
def stbL (x : SbX) : List (Nat × Value) := [(4, .pointer (some ⟨x.b4, 0, none⟩)), (5, .pointer (some ⟨x.b5, 0, none⟩))]
noncomputable def stb_H (x : Con.X stbC) (F : Atom) : Hints where
  op := hk ((stbOv x F) ++ [])
  inv := (λ_ _ _ => none) x F
  cut := stbCut x F
  ord := (λ_ => [])
abbrev q346 (x : SbX) : Option Addr := some ⟨x.b3, 0, none⟩
abbrev q255 (x : SbX) : Option Addr := some ⟨x.b4, 0, none⟩
abbrev q256 (x : SbX) : Option Addr := some ⟨x.b5, 0, none⟩
abbrev q78 (x : SbX) : List Value := [fo_vi x.g.c0, float f64 x.g.f, fo_vs x.g.s, fo_vi 0]
abbrev q41 (a : Nat) (x : SbX) (F : Atom) := [(0, fo_pr (Ex.rest ((jw0 a x.g.h).R q59) (jw0 a x.g.h).B)), (1, F), (2, fo_cl x.b3 (q78 x) 30), (3, fo_cl x.b4 q8 30), (4, fo_cl x.b5 [fo_vi 0] 32)]
def T70 := fo_C0 28 tfC
theorem stb_vc (x : SbX) (F : Atom) (hc : stbC.cond x) (hr : stbC.rdc x F) :
 (∃(a : Unit), True ∧ (fo_vp (some ⟨x.g.h, 0, none⟩) = fo_vp (some ⟨x.g.h, 0, none⟩) ∧ fo_vp (q346 x) = fo_vp (q346 x) ∧ fo_vp (q255 x) = fo_vp (q255 x) ∧ fo_vp (q256 x) = fo_vp (q256 x) ∧ True) ∧ Ent [(0, fo_cl x.b3 (q78 x) 30), (1, fo_cl x.b4 q8 30), (2, fo_cl x.b5 [fo_vi 0] 32), (3, F)] [(0, F), (1, fo_cl x.b3 (q78 x) 30), (2, fo_cl x.b4 q8 30), (3, fo_cl x.b5 [fo_vi 0] 32)]) ∧ fo_vA λ(l : Unit) _ => True → (∀(b : Nat), ∃(a : Nat), True ∧ (fo_vp (q346 x) = fo_vp (q346 x) ∧ fo_vp (q255 x) = fo_vp (q255 x) ∧ fo_vp (q256 x) = fo_vp (q256 x) ∧ fo_vp (q17 b) = fo_vp (q17 a) ∧ True) ∧ Ent [(0, F), (1, fo_cl x.b3 (q78 x) 30), (2, fo_cl x.b4 q8 30), (3, fo_cl x.b5 [fo_vi 0] 32), (2020, fo_cl b [fo_vp (some ⟨x.g.h, 0, none⟩), fo_vp none, fo_vl none 0 0, fo_vl none 0 0] 84)] (q41 a x F)) ∧ fo_vA λ(j : Nat) _ => True → fo_sm x.b3 0 ∧ fo_sm x.b3 1 ∧ fo_sm x.b3 2 ∧ fo_sm x.b3 3 ∧ fo_C2 26 tsilC (λh => h.g.good) (λh rr => Look rr ⟨h.b, 0, none⟩ (fo_vp (some ⟨h.g.h, 0, none⟩)) ∧ h.g.Rd rr ∧ h.g.good) [fo_vp (q17 j), agg ⟨q78 x⟩] (fo_aR (q41 j x F) []) (λh g => fo_sm x.b3 0 ∧ fo_sm x.b3 1 ∧ fo_sm x.b3 2 ∧ fo_sm x.b3 3 ∧ fo_k 27 tvatC ∧ true = true ∧ ∃(f : TgX), [fo_vp (q17 j), agg ⟨q78 x⟩] = [fo_vp (some ⟨f.b, 0, none⟩), agg ⟨[fo_vi f.g.c0, float f64 f.g.f, fo_vs f.g.s, fo_vi 0]⟩] ∧ [fo_pr (Ex.rest ((jw0 j x.g.h).R q59) (jw0 j x.g.h).B)] = [fo_pr (Ex.rest ((jw0 f.b f.g.h).R f.t) (jw0 f.b f.g.h).B)] ∧ (f.g.good ∧ f.t.size ≤ 16384) ∧ (Utf (fo_aR (q41 j x F) [0]) ∧ f.g.Rd (fo_aR (q41 j x F) [0]) ∧ f.g.good) ∧ (∀(e : JwX), (f.t ++ f.g.q).size.le 16384 → fo_C3 29 bs4P (λd => d.t.size ≤ 140737488355328) [fo_vp (some ⟨j, 1, none⟩)] [fo_pr (Ex.rest (((jw0 f.b f.g.h).st e.a e.n e.c).R (f.t ++ f.g.q)) ((jw0 f.b f.g.h).st e.a e.n e.c).B)] (λd c => T70 [fo_vs d.t] (λb a => fo_sm x.b4 0 ∧ fo_sm x.b4 1 ∧ fo_sm x.b4 2 ∧ fo_sm x.b4 3 ∧ fo_sm x.b5 0 ∧ fo_sm x.b4 0 ∧ fo_sm x.b4 1 ∧ fo_sm x.b4 2 ∧ fo_sm x.b4 3 ∧ fo_sm x.b5 0 ∧ Done stbC x F (fo_rt (tuple ⟨[agg ⟨q244 b⟩, fo_vi 0]⟩)) [(0, fo_em), (1, F), (2, fo_cl x.b3 (q78 x) 30), (3, fo_cl x.b4 (q244 b) 30), (4, fo_cl x.b5 [fo_vi 0] 32)]))) ∧ ∀(a : Unit), Nat.le 16385 (f.t ++ f.g.q).size → (fo_vp (q255 x) = fo_vp (q255 x) ∧ fo_vp (q256 x) = fo_vp (q256 x) ∧ True) ∧ Done stbC x F q36 [(0, fo_em), (1, F), (2, fo_cl x.b3 (q78 x) 30), (3, fo_cl x.b4 q8 30), (4, fo_cl x.b5 [fo_vi 0] 32)]) := by
  delta q346 q255 q256 q78 q8 q17 q59 q41 T70 q244 q36 fo_aR fo_sm fo_C0 fo_C2 fo_C3 fo_vi fo_vs fo_vp fo_vl fo_vf fo_cl fo_pr fo_em fo_rt fo_vA
  obtain ⟨g, b3, b4, b5⟩ := x
  obtain ⟨hu, hg, -⟩ := hr
  have hc : g.good := hc
  have hu : Utf F := hu
  have hg : g.Rd F := hg
  dsimp only
  have hemp : (⟨#[]⟩ : ByteArray) ++ g.q = g.q := ByteArray.empty_append
  refine ⟨⟨(), fo_tv, ⟨rfl, rfl, rfl, rfl, fo_tv⟩, Ent.pick [3, 0, 1, 2] rfl rfl⟩, λ_ _ _ => ⟨λd => ⟨d, fo_tv, ⟨rfl, rfl, rfl, rfl, fo_tv⟩, Ent.ex [0, 1, 2, 3] [2020, 999] (R := (jw0 d g.h).R ⟨#[]⟩) (B := (jw0 d g.h).B) ⟨none, nilRow⟩ ⟨.inl rfl, ?_⟩ rfl rfl rfl⟩, λd _ _ => ?_⟩⟩
  · exact ⟨.nil rfl, .inl rfl⟩
  refine ⟨⟨rfl, rfl⟩, ⟨rfl, rfl⟩, ⟨rfl, rfl⟩, ⟨rfl, rfl⟩, tsil_ok, rfl, ⟨d, ⟨#[]⟩, g⟩, rfl, rfl, hc, ⟨Look.rest (j := 0) (by simp) (jw_look0 (jw0 d g.h) ⟨#[]⟩), hc.sub (sub_rest (A := F) 1 (by simp) rfl) hg, hc⟩, λ_ _ => ⟨⟨rfl, rfl⟩, ⟨rfl, rfl⟩, ⟨rfl, rfl⟩, ⟨rfl, rfl⟩, tvat_ok, rfl, ⟨d, ⟨#[]⟩, g⟩, rfl, rfl, ⟨hc, fo_zl _⟩, ⟨Utf.rest (j := 1) (by simp) hu, hc.sub (sub_rest (A := F) 1 (by simp) rfl) hg, hc⟩, λz hz => ?_, λ_ hz => ?_⟩⟩
  · have hz : ((⟨#[]⟩ : ByteArray) ++ g.q).size ≤ 16384 := hz
    refine ⟨bs4p_ok, rfl, ⟨(jw0 d g.h).st z.a z.n z.c, ⟨#[]⟩ ++ g.q, ⟨#[]⟩⟩, rfl, rfl, by dsimp only; omega, fo_tv, λ_ _ => ⟨tf_ok, rfl, ⟨#[]⟩ ++ g.q, rfl, rfl, fo_tv, fo_tv, λ_ _ => ?_⟩⟩
    rw [hemp] at hz ⊢
    exact ⟨⟨rfl, rfl⟩, ⟨rfl, rfl⟩, ⟨rfl, rfl⟩, ⟨rfl, rfl⟩, ⟨rfl, rfl⟩, ⟨rfl, rfl⟩, ⟨rfl, rfl⟩, ⟨rfl, rfl⟩, ⟨rfl, rfl⟩, ⟨rfl, rfl⟩, .inl (), hz, rfl, Ent.pick [1] rfl rfl⟩
  · have hz : 16384 < ((⟨#[]⟩ : ByteArray) ++ g.q).size := hz
    rw [hemp] at hz
    exact ⟨⟨rfl, rfl, fo_tv⟩, .inr (), hz, rfl, Ent.pick [3, 4, 1] rfl rfl⟩
theorem stb_body (x : Con.X stbC) (F : Atom) (hc : stbC.cond x) (hr : stbC.rdc x F) : BodyD Tryz.prog 23 stb (stb_H x F) rh5 (codeOf stb) (ent (Con.args stbC x)) (ofL (Con.pre stbC x ++ [F])) (stbL x) (Done stbC x F) :=
  Eq.mpr (by kernel_rfl) (stb_vc x F hc hr)
structure SdX where
  b4 : Nat
  b5 : Nat
abbrev stdC : Con where
  X := SdX
  Y := Unit
  args x := [.pointer (some ⟨x.b4, 0, none⟩), .pointer (some ⟨x.b5, 0, none⟩), eqV 112]
  pre x := [.cells x.b4 [.int .i64 0, .float .f64 0, .string ⟨#[]⟩, .int .i64 0] 30, .cells x.b5 [.int .i64 0] 32]
  cond _ := True
  rdc _ _ := True
  rel _ _ := True
  val _ _ := .returned (.tuple #[])
  post x _ := [.cells x.b4 [.int .i64 0, .float .f64 0, .string ⟨#[]⟩, .int .i64 0] 30, .cells x.b5 [.int .i64 112] 32]
def stdL (x : SdX) : List (Nat × Value) := [(0, .pointer (some ⟨x.b4, 0, none⟩))]
def stdCut (x : SdX) (F : Atom) : Nat → Option Inv := fun
  | 1 => some { X := Unit, P := λ_ => True, mu := λ_ => 0, lv := λ_ => [(0, .pointer (some ⟨x.b4, 0, none⟩)), (1, .pointer (some ⟨x.b5, 0, none⟩)), (2, eqV 112)], st := λ_ => [F, .cells x.b4 [.int .i64 0, .float .f64 0, .string ⟨#[]⟩, .int .i64 0] 30, .cells x.b5 [.int .i64 0] 32] }
  | _ => none
def stdOv (_x : SdX) (_F : Atom) : List (Nat × Nat × OH) := [(2, 3, .w [.aq 1, .aq 1, .aq 1, .aq 1]), (2, 4, .w [.aq 2])]
noncomputable def std_H (x : Con.X stdC) (F : Atom) : Hints where
  op := hk ((stdOv x F) ++ [])
  inv := (λ_ _ _ => none) x F
  cut := stdCut x F
  ord := (λ_ => [])
theorem std_vc (x : SdX) (F : Atom) (hc : stdC.cond x) (hr : stdC.rdc x F) :
 (∃(a : Unit), True ∧ (fo_vp (some ⟨x.b4, 0, none⟩) = fo_vp (some ⟨x.b4, 0, none⟩) ∧ fo_vp (some ⟨x.b5, 0, none⟩) = fo_vp (some ⟨x.b5, 0, none⟩) ∧ fo_vf 32 (fo_vi 112) = fo_vf 32 (fo_vi 112) ∧ True) ∧ Ent [(0, fo_cl x.b4 q8 30), (1, fo_cl x.b5 [fo_vi 0] 32), (2, F)] [(0, F), (1, fo_cl x.b4 q8 30), (2, fo_cl x.b5 [fo_vi 0] 32)]) ∧ fo_vA λ(b : Unit) _ => True → true = true ∧ fo_sm x.b4 0 ∧ fo_sm x.b4 1 ∧ fo_sm x.b4 2 ∧ fo_sm x.b4 3 ∧ fo_sm x.b5 0 ∧ Done stdC x F q74 [(0, F), (1, fo_cl x.b4 q8 30), (2, fo_cl x.b5 [fo_vi 112] 32)] := by
  delta q8 q74 fo_sm fo_vi fo_vs fo_vp fo_vf fo_cl fo_rt fo_vA
  refine ⟨⟨(), fo_tv, ⟨rfl, rfl, rfl, fo_tv⟩, Ent.pick [2, 0, 1] rfl rfl⟩, λ_ js _ => ?_⟩
  exact ⟨rfl, ⟨rfl, rfl⟩, ⟨rfl, rfl⟩, ⟨rfl, rfl⟩, ⟨rfl, rfl⟩, ⟨rfl, rfl⟩, (), fo_tv, rfl, Ent.pick [1, 2, 0] rfl rfl⟩
theorem std_body (x : Con.X stdC) (F : Atom) (hc : stdC.cond x) (hr : stdC.rdc x F) : BodyD Tryz.prog 9 std (std_H x F) [] (codeOf std) (ent (Con.args stdC x)) (ofL (Con.pre stdC x ++ [F])) (stdL x) (Done stdC x F) :=
  Eq.mpr (by kernel_rfl) (std_vc x F hc hr)
end
end Go.Proofs.YtjdabjmjldiodaaGreatDoor
