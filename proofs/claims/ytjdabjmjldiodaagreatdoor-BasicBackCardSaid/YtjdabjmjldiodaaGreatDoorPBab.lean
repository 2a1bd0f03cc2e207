/- A part of the proof that pennantlaw23.BasicBack answers true at every input. -/
import Derived.Test.YtjdabjmjldiodaaGreatDoorPBaa
set_option linter.all false
namespace Go.Proofs.YtjdabjmjldiodaaGreatDoor
set_option maxRecDepth 100000
open Go.Value (int slice string bool pointer agg tuple func float iface nilIface)
open Go.IntKind (i64 u8 u64 i32 u32 u16 i8 i16)
open Go.FloatKind (f64)
open Go.Ending (returned panicked)
section
open Go
section
variable {P : Program} {N : Nat}
theorem tm_ext {T T' : Tm} (h : ∀ i, T.at i = T'.at i) : T = T' := funext h
theorem putT_self {T : Tm} {d : Nat} {v : Value} (e : T.at d = v) : putT N (some d) v T = T := by
  refine tm_ext λi => ?_
  rw [putT_at]
  split
  · rename_i hh; rw [hh.2, e]
  · rfl
theorem putT_comm {x y : Option Tmp} (h : ∀ d, x = some d → y ≠ some d) (u v : Value) (T : Tm) : putT N x u (putT N y v T) = putT N y v (putT N x u T) := by
  cases x with
  | none => rfl
  | some d =>
    cases y with
    | none => rfl
    | some e =>
      have hne : d ≠ e := λhe => h d rfl (he ▸ rfl)
      refine tm_ext λi => ?_
      simp only [putT_at]
      by_cases h1 : d < N ∧ i = d <;> by_cases h2 : e < N ∧ i = e
      · exact absurd (h1.2.symm.trans h2.2) hne
      · simp only [if_pos h1, if_neg h2]
      · simp only [if_neg h1, if_pos h2]
      · simp only [if_neg h1, if_neg h2]
theorem putT_off {x : Option Tmp} {t : Nat} (h : x ≠ some t) (v : Value) (T : Tm) : (putT N x v T).at t = T.at t := by
  cases x with
  | none => rfl
  | some d =>
    rw [putT_at]
    have : ¬ t = d := λe => h (e ▸ rfl)
    simp [this]
def Agr (ops : Array Oper) (o : Oper) (T T' : Tm) : Prop := ∀ t, t ∈ o.looksAt ops → T.at t = T'.at t
theorem Agr.put {ops : Array Oper} {x y : Oper} (h : x.apart ops y = true) (v : Value) (T : Tm) : Agr ops y T (putT N x.dst v T) := by
  intro t ht
  exact (putT_off (λe => (Oper.apart_spec h).1 t e ht) v T).symm
theorem Agr.put' {ops : Array Oper} {x y : Oper} (h : x.apart ops y = true) (v : Value) (T : Tm) : Agr ops x T (putT N y.dst v T) := by
  intro t ht
  exact (putT_off (λe => (Oper.apart_spec h).2.2 t e ht) v T).symm
theorem Agr.evs {ops : Array Oper} {o : Oper} {T T' : Tm} (h : Agr ops o T T') : ∀ x, x ∈ o.op.operands → ev T x = ev T' x := by
  intro x hx
  cases x with
  | tmp t =>
    refine h t ?_
    unfold Oper.looksAt
    refine fo_ml _ (List.mem_filterMap.2 ⟨.tmp t, Array.mem_toList_iff.2 hx, rfl⟩)
  | const v => rfl
  | global g => rfl
  | func f => rfl
theorem notSel {o : Oper} (h : isSel o = false) : ∀ cs b, o.op ≠ .select cs b := by
  intro cs b e
  simp [isSel, e] at h
def gd (ops : Array Oper) (o : Oper) (T : Tm) : Option Bool :=
  match o.guard with
  | none => some true
  | some (j, want) => match (ops[j]?).bind (·.dst) with
    | none => none
    | some d => match T.at d with
      | .bool t => some (t == want)
      | .tuple _ => some false
      | _ => none
theorem gd_agr {ops : Array Oper} {o : Oper} {T T' : Tm} (h : Agr ops o T T') : gd ops o T = gd ops o T' := by
  unfold gd
  cases hg : o.guard with
  | none => rfl
  | some p =>
    obtain ⟨j, want⟩ := p
    simp only
    cases hd : (ops[j]?).bind (·.dst) with
    | none => rfl
    | some d =>
      have : T.at d = T'.at d := by
        refine h d ?_
        unfold Oper.looksAt
        refine List.mem_append_right _ ?_
        simp [hg, hd]
      simp only [this]
theorem opStep_gd {ops : Array Oper} {o : Oper} {h : OH} {T : Tm} {S : St} {k : Tm → St → Prop} {kp : List PanicEntry → Tm → St → Prop} :
    opStep P N ops o h T S k kp ↔ (match gd ops o T with | some true => opRun P N o h T S k kp | some false => k (putT N o.dst undef T) S | none => False) := by
  unfold opStep gd
  cases hg : o.guard with
  | none => exact Iff.rfl
  | some p =>
    obtain ⟨j, want⟩ := p
    simp only
    cases hd : (ops[j]?).bind (·.dst) with
    | none => exact Iff.rfl
    | some d =>
      simp only
      cases ht : T.at d with
      | bool t =>
        simp only
        cases t <;> cases want <;> simp [Br, putT_self ht]
      | _ => exact Iff.rfl
theorem optI_congr {T T' : Tm} {x : Option Operand} {d : Int} (h : ∀ y, x = some y → ev T y = ev T' y) : optI T d x = optI T' d x := by
  cases x with
  | none => rfl
  | some y => simp only [optI, h y rfl]
theorem q_congr {o : Oper} {h : OH} {T T' : Tm} {S S' : St} {k : Value → Prop} (hsel : isSel o = false) (he : ∀ x, x ∈ o.op.operands → ev T x = ev T' x)
    (hS : ∀ j, j ∈ readsOf (cls h) → gt S j = gt S' j) (hr : qRun P o h T S k) : qRun P o h T' S' k := by
  have hex : execOp (ev T) o = execOp (ev T') o := execOp_congr o (notSel hsel) he
  have hmap : o.op.operands.toList.map (ev T) = o.op.operands.toList.map (ev T') := List.map_congr_left λx hx => he x (Array.mem_toList_iff.1 hx)
  unfold qRun at *
  split at hr
  · rename_i hs
    rw [← hex]
    exact rd_congr _ _ (λj hj => hS j (by simpa [cls, readsOf] using hj)) hr
  · simp only [hmap] at hr ⊢; exact hr
  · split at hr
    · rename_i c x y hop
      have hc := he c (by simp [hop, Op.operands])
      have hx := he x (by simp [hop, Op.operands])
      have hy := he y (by simp [hop, Op.operands])
      simp only [hop, ← hc, ← hx, ← hy]
      exact hr
    · exact hr.elim
  · simp only [ckV] at hr ⊢
    split at hr <;> first
      | exact hr.elim
      | (rename_i x y _ hop
         have hx := he x (by simp [hop, Op.operands])
         have hy := he y (by simp [hop, Op.operands])
         simp only [hop, ← hx, ← hy]
         exact hr)
      | (rename_i s d x hop
         have hx := he x (by simp [hop, Op.operands])
         simp only [hop, ← hx]
         exact hr)
  · simp only [ixV] at hr ⊢
    split at hr
    · rename_i t x i hop
      have hx := he x (by simp [hop, Op.operands])
      have hi := he i (by simp [hop, Op.operands])
      simp only [hop, ← hx, ← hi]
      exact hr
    · exact hr.elim
  · simp only [siV] at hr ⊢
    split at hr
    · rename_i t x i hop
      have hx := he x (by simp [hop, Op.operands])
      have hi := he i (by simp [hop, Op.operands])
      simp only [hop, ← hx, ← hi]
      exact hr
    · exact hr.elim
  · simp only [slV] at hr ⊢
    split at hr
    · rename_i t x lo hi hop
      have hx := he x (by simp [hop, Op.operands])
      have hlo : ∀ d, optI T d lo = optI T' d lo := λd => optI_congr λy hy => he y (by subst hy; simp [hop, Op.operands])
      have hhi : ∀ d, optI T d hi = optI T' d hi := λd => optI_congr λy hy => he y (by subst hy; simp [hop, Op.operands])
      simp only [hop, ← hx, ← hlo, ← hhi]
      exact hr
    · exact hr.elim
  · exact hr.elim
def Off (S S' : St) (ids : List Nat) : Prop := ∀ j, j ∉ ids → gt S' j = gt S j
theorem Off.refl (S : St) (ids : List Nat) : Off S S ids := λ_ _ => rfl
theorem Off.upd {S : St} {ids : List Nat} {j : Nat} (h : j ∈ ids) (A : Atom) : Off S (updS S j A) ids := by
  intro i hi
  rw [gt_upd]
  have : ¬ i = j := λe => hi (e ▸ h)
  simp [this]
theorem Off.trans {S S1 S2 : St} {ids : List Nat} (h : Off S S1 ids) (h' : Off S1 S2 ids) : Off S S2 ids := λj hj => (h' j hj).trans (h j hj)
theorem Off.mono {S S' : St} {a b : List Nat} (h : Off S S' a) (hab : ∀ j, j ∈ a → j ∈ b) : Off S S' b := λj hj => h j λhh => hj (hab j hh)
structure Fr (φ : St → St) (ids : List Nat) : Prop where
  get : ∀ S j, j ∈ ids → gt (φ S) j = gt S j
  com : ∀ S j A, j ∈ ids → φ (updS S j A) = updS (φ S) j A
theorem Fr.id (ids : List Nat) : Fr (λS => S) ids := ⟨λ_ _ _ => rfl, λ_ _ _ _ => rfl⟩
theorem Fr.upd {ids : List Nat} {j : Nat} (h : j ∉ ids) (A : Atom) : Fr (λS => updS S j A) ids := by
  refine ⟨λS i hi => ?_, λS i B hi => ?_⟩
  · show gt (updS S j A) i = _
    rw [gt_upd]
    have : ¬ i = j := λe => h (e ▸ hi)
    simp [this]
  · have : j ≠ i := λe => h (e ▸ hi)
    exact ins_comm this A B S
theorem Fr.mono {φ : St → St} {a b : List Nat} (h : Fr φ b) (hab : ∀ j, j ∈ a → j ∈ b) : Fr φ a := ⟨λS j hj => h.get S j (hab j hj), λS j A hj => h.com S j A (hab j hj)⟩
theorem rd_step {α : Type} {φ : St → St} {S : St} {hs : List LH} {s : Sem α} {k k' : α → Prop} (hφ : Fr φ (ldIds hs)) (hr : rd P S s hs k) (hk : ∀ a, k a → k' a) : rd P (φ S) s hs k' :=
  rd_mono _ _ (rd_congr _ _ (λj hj => (hφ.get S j hj).symm) hr) hk
theorem wr_step {α : Type} {φ : St → St} : ∀ (s : Sem α) (hs : List LH) {S : St} {k k' : α → St → Prop} {kp kp' : Value → St → Prop}, Fr φ (ldIds hs) → wr P s hs S k kp →
    (∀ a S', Off S S' (ldIds hs) → k a S' → k' a (φ S')) → (∀ v S', kp v S' → kp' v (φ S')) → wr P s hs (φ S) k' kp' := by
  intro s
  induction s with
  | pure a => intro hs S k k' kp kp' hφ h hk _; exact hk _ _ (Off.refl _ _) h
  | program f ih => intro hs S k k' kp kp' hφ h hk hp; exact ih P hs hφ h hk hp
  | mark m s ih => intro hs S k k' kp kp' hφ h hk hp; exact ih hs hφ h hk hp
  | halt x =>
    intro hs S k k' kp kp' hφ h hk hp
    cases x with
    | panic v => exact hp _ _ h
    | _ => cases hs <;> simp only [wr] at h
  | load m a f ih =>
    intro hs S k k' kp kp' hφ h hk hp
    cases hs with
    | nil => simp only [wr] at h
    | cons x hs =>
      cases x with
      | aq j =>
        have hφ' := hφ.mono (a := ldIds hs) (by intro i hi; simp [ldIds, hi])
        have hoff : ∀ S', Off S S' (ldIds hs) → Off S S' (ldIds (.aq j :: hs)) := λS' ho => ho.mono (by intro i hi; simp [ldIds, hi])
        have e := hφ.get S j (by simp [ldIds])
        simp only [wr] at h ⊢
        rw [e]
        split at h
        · refine ⟨h.1, ?_⟩
          have h2 := h.2
          split at h2
          · exact ih _ hs hφ' h2 (λa S' ho hh => hk a S' (hoff S' ho) hh) hp
          · exact h2.elim
        · exact h.elim
      | ex j sh =>
        have hφ' := hφ.mono (a := ldIds hs) (by intro i hi; simp [ldIds, hi])
        have hoff : ∀ S', Off S S' (ldIds hs) → Off S S' (ldIds (.ex j sh :: hs)) := λS' ho => ho.mono (by intro i hi; simp [ldIds, hi])
        have e := hφ.get S j (by simp [ldIds])
        simp only [wr] at h ⊢
        rw [e]
        cases sh <;> simp only [Shape.ex] at h ⊢
        case slice => obtain ⟨a, l, c, h1, h2⟩ := h; exact ⟨a, l, c, h1, ih _ hs hφ' h2 (λa S' ho hh => hk a S' (hoff S' ho) hh) hp⟩
        case is v => obtain ⟨h1, h2⟩ := h; exact ⟨h1, ih _ hs hφ' h2 (λa S' ho hh => hk a S' (hoff S' ho) hh) hp⟩
        all_goals (obtain ⟨n, h1, h2⟩ := h; exact ⟨n, h1, ih _ hs hφ' h2 (λa S' ho hh => hk a S' (hoff S' ho) hh) hp⟩)
      | nw j => simp only [wr] at h
  | store m a v s ih =>
    intro hs S k k' kp kp' hφ h hk hp
    cases hs with
    | nil => cases v <;> simp only [wr] at h
    | cons x hs =>
      cases x with
      | aq j =>
        have hφ' := hφ.mono (a := ldIds hs) (by intro i hi; simp [ldIds, hi])
        have e := hφ.get S j (by simp [ldIds])
        simp only [wr] at h ⊢
        rw [e]
        split at h
        · refine ⟨h.1, ?_⟩
          have h2 := h.2
          split at h2
          · split at h2
            · rw [← hφ.com S j _ (by simp [ldIds])]
              exact ih hs hφ' h2 (λa S' ho hh => hk a S' ((Off.upd (by simp [ldIds]) _).trans (ho.mono (by intro i hi; simp [ldIds, hi]))) hh) hp
            · exact h2.elim
          · exact h2.elim
        · exact h.elim
      | ex j sh =>
        have hφ' := hφ.mono (a := ldIds hs) (by intro i hi; simp [ldIds, hi])
        have e := hφ.get S j (by simp [ldIds])
        simp only [wr] at h ⊢
        rw [e]
        split at h
        · refine ⟨h.1, ?_⟩
          have h2 := h.2
          split at h2
          · rw [← hφ.com S j _ (by simp [ldIds])]
            exact ih hs hφ' h2 (λa S' ho hh => hk a S' ((Off.upd (by simp [ldIds]) _).trans (ho.mono (by intro i hi; simp [ldIds, hi]))) hh) hp
          · exact h2.elim
        · exact h.elim
      | nw j => simp only [wr] at h
  | new o f ih =>
    intro hs S k k' kp kp' hφ h hk hp
    cases hs with
    | nil => simp only [wr] at h
    | cons x hs =>
      cases x with
      | nw j =>
        have hφ' := hφ.mono (a := ldIds hs) (by intro i hi; simp [ldIds, hi])
        simp only [wr] at h ⊢
        intro b
        rw [← hφ.com S j _ (by simp [ldIds])]
        exact ih b hs hφ' (h b) (λa S' ho hh => hk a S' ((Off.upd (by simp [ldIds]) _).trans (ho.mono (by intro i hi; simp [ldIds, hi]))) hh) hp
      | _ => simp only [wr] at h
  | shape r f ih =>
    intro hs S k k' kp kp' hφ h hk hp
    cases hs with
    | nil => simp only [wr] at h
    | cons x hs =>
      cases x with
      | aq j =>
        have hφ' := hφ.mono (a := ldIds hs) (by intro i hi; simp [ldIds, hi])
        have e := hφ.get S j (by simp [ldIds])
        simp only [wr] at h ⊢
        rw [e]
        split at h
        · exact ⟨h.1, ih _ hs hφ' h.2 (λa S' ho hh => hk a S' (ho.mono (by intro i hi; simp [ldIds, hi])) hh) hp⟩
        · exact h.elim
      | _ => simp only [wr] at h
  | frozen a f ih =>
    intro hs S k k' kp kp' hφ h hk hp
    cases hs with
    | nil => simp only [wr] at h
    | cons x hs =>
      cases x with
      | aq j =>
        have hφ' := hφ.mono (a := ldIds hs) (by intro i hi; simp [ldIds, hi])
        have e := hφ.get S j (by simp [ldIds])
        simp only [wr] at h ⊢
        rw [e]
        split at h
        · exact ⟨h.1, ih _ hs hφ' h.2 (λa S' ho hh => hk a S' (ho.mono (by intro i hi; simp [ldIds, hi])) hh) hp⟩
        · exact h.elim
      | _ => simp only [wr] at h
  | getObj r f ih =>
    intro hs S k k' kp kp' hφ h hk hp
    cases hs with
    | nil => simp only [wr] at h
    | cons x hs =>
      cases x with
      | aq j =>
        have hφ' := hφ.mono (a := ldIds hs) (by intro i hi; simp [ldIds, hi])
        have e := hφ.get S j (by simp [ldIds])
        simp only [wr] at h ⊢
        rw [e]
        split at h
        · exact h.elim
        · exact ⟨h.1, ih _ hs hφ' h.2 (λa S' ho hh => hk a S' (ho.mono (by intro i hi; simp [ldIds, hi])) hh) hp⟩
        · exact h.elim
      | _ => simp only [wr] at h
  | setObj r o' s ih =>
    intro hs S k k' kp kp' hφ h hk hp
    cases hs with
    | nil => simp only [wr] at h
    | cons x hs =>
      cases x with
      | aq j =>
        have hφ' := hφ.mono (a := ldIds hs) (by intro i hi; simp [ldIds, hi])
        have e := hφ.get S j (by simp [ldIds])
        simp only [wr] at h ⊢
        rw [e]
        split at h
        · exact h.elim
        · refine ⟨h.1, ?_⟩
          rw [← hφ.com S j _ (by simp [ldIds])]
          exact ih hs hφ' h.2 (λa S' ho hh => hk a S' ((Off.upd (by simp [ldIds]) _).trans (ho.mono (by intro i hi; simp [ldIds, hi]))) hh) hp
        · exact h.elim
      | _ => simp only [wr] at h
  | _ => intro hs S k k' kp kp' hφ h; cases hs <;> simp only [wr] at h
theorem clr_off (touch : List Nat) : ∀ (S : St) (ids : List Nat), (∀ j, j ∈ touch → j ∈ ids) → Off S (clr touch S) ids := by
  induction touch with
  | nil => intro S ids _; exact Off.refl _ _
  | cons j r ih =>
    intro S ids h
    exact (Off.upd (h j (fo_mc ..)) _).trans (ih _ ids λi hi => h i (fo_mm _ hi))
theorem plc_off (out : List Nat) : ∀ (l : List Atom) (S : St) (ids : List Nat), (∀ j, j ∈ out → j ∈ ids) → Off S (plcR0 out l S) ids := by
  induction out with
  | nil => intro l S ids _; exact Off.refl _ _
  | cons j r ih =>
    intro l S ids h
    cases l with
    | nil => exact Off.refl _ _
    | cons A l => exact (Off.upd (h j (fo_mc ..)) _).trans (ih l _ ids λi hi => h i (fo_mm _ hi))
theorem clr_fr {φ : St → St} (touch : List Nat) : ∀ (S : St) {ids : List Nat}, Fr φ ids → (∀ j, j ∈ touch → j ∈ ids) → clr touch (φ S) = φ (clr touch S) := by
  induction touch with
  | nil => intro S ids _ _; rfl
  | cons j r ih =>
    intro S ids hφ h
    show clr r (updS (φ S) j .emp) = φ (clr r (updS S j .emp))
    rw [← hφ.com S j _ (h j (fo_mc ..))]
    exact ih _ hφ λi hi => h i (fo_mm _ hi)
theorem plc_fr {φ : St → St} (out : List Nat) : ∀ (l : List Atom) (S : St) {ids : List Nat}, Fr φ ids → (∀ j, j ∈ out → j ∈ ids) → plcR0 out l (φ S) = φ (plcR0 out l S) := by
  induction out with
  | nil => intro l S ids _ _; cases l <;> rfl
  | cons j r ih =>
    intro l S ids hφ h
    cases l with
    | nil => rfl
    | cons A l =>
      show plcR0 r l (updS (φ S) j A) = φ (plcR0 r l (updS S j A))
      rw [← hφ.com S j _ (h j (fo_mc ..))]
      exact ih l _ hφ λi hi => h i (fo_mm _ hi)
def Wide (φ : St → St) (S : St) : Prop := ∀ touch, Sub (.pred (rest S touch)) (.pred (rest (φ S) touch))
theorem Wide.id (S : St) : Wide (λS => S) S := λ_ _ _ o h => ⟨o, h⟩
theorem Wide.upd {S : St} {j : Nat} (hj : gt S j = .emp) (A : Atom) : Wide (λS => updS S j A) S := by
  intro touch I h o ho
  obtain ⟨f, h1, h2, h3⟩ := ho
  refine ⟨o, λi b => i ≠ j ∧ f i b, λi => ?_, λi i' b hb hb' => h2 _ _ _ hb.2 hb'.2, λi b hb => h3 _ _ hb.2⟩
  have := h1 i
  rw [gt_clr] at this ⊢
  by_cases hi : i ∈ touch
  · simp only [hi, if_true]; trivial
  · simp only [hi, if_false] at this ⊢
    by_cases hij : i = j
    · subst hij; rw [hj]; trivial
    · rw [gt_upd] at this
      simp only [hij, if_false] at this
      have e : (λb => i ≠ j ∧ f i b) = f i := by funext b; simp [hij]
      show Atom.holds I h (λb => i ≠ j ∧ f i b) (gt S i)
      rw [e]; exact this
theorem useC_step {φ : St → St} {C : Con} {args : List Value} {touch out : List Nat} {S : St} {k k' : Value → St → Prop} {kp kp' : List PanicEntry → St → Prop}
    (hφ : Fr φ (touch ++ out)) (hw : Wide φ S) (hu : useC C args touch out S k kp) (hk : ∀ v S', Off S S' (touch ++ out) → k v S' → k' v (φ S')) (hp : ∀ ch S', kp ch S' → kp' ch (φ S')) :
    useC C args touch out (φ S) k' kp' := by
  obtain ⟨x, ha, hpre, hc, hr, hy⟩ := hu
  refine ⟨x, ha, ?_, hc, C.rmono x _ _ (hw touch) hr, allY_iff.2 λy hrel => ?_⟩
  · rw [← hpre]
    exact List.map_congr_left λj hj => hφ.get S j (fo_ml _ hj)
  · have := allY_iff.1 hy y hrel
    have e : plcR0 out (C.post x y) (clr touch (φ S)) = φ (plcR0 out (C.post x y) (clr touch S)) := by
      rw [clr_fr touch S hφ (λj hj => fo_ml _ hj), plc_fr out _ _ hφ (λj hj => List.mem_append_right _ hj)]
    rw [e]
    cases hv : C.val x y <;> simp only [hv] at this ⊢
    · exact hk _ _ ((clr_off touch S _ λj hj => fo_ml _ hj).trans (plc_off out _ _ _ λj hj => List.mem_append_right _ hj)) this
    · exact hp _ _ this
theorem opRun_step {o : Oper} {h : OH} {T T' : Tm} {S : St} {φ : St → St} {k k' : Tm → St → Prop} {kp kp' : List PanicEntry → Tm → St → Prop} (hsel : isSel o = false)
    (he : ∀ x, x ∈ o.op.operands → ev T x = ev T' x) (hφ : Fr φ (allIds (cls (res P o h)))) (hw : Wide φ S) (hr : opRun P N o h T S k kp)
    (hk : ∀ v S', Off S S' (idsOf (cls (res P o h))) → k (putT N o.dst v T) S' → k' (putT N o.dst v T') (φ S')) (hp : ∀ ch S', kp ch T S' → kp' ch T' (φ S')) :
    opRun P N o h T' (φ S) k' kp' := by
  have hex : execOp (ev T) o = execOp (ev T') o := execOp_congr o (notSel hsel) he
  have hmap : o.op.operands.toList.map (ev T) = o.op.operands.toList.map (ev T') := List.map_congr_left λx hx => he x (Array.mem_toList_iff.1 hx)
  unfold opRun at *
  generalize hg : res P o h = g at *
  cases g with
  | ask r i => exact hr.no.elim
  | w hs =>
    simp only at hr ⊢
    rw [← hex]
    refine wr_step _ hs (by simpa [allIds, cls, readsOf, idsOf] using hφ) hr (λx S' ho hh => ?_) (λv S' hh => hp _ _ hh)
    cases x <;> first | exact hh.elim | exact hk _ _ (by simpa [cls, idsOf] using ho) hh
  | n j =>
    simp only at hr ⊢
    rw [← hex]
    split at hr
    · intro b
      have hb := hr b
      split at hb
      · rename_i v hv
        have := hk v (updS S j (mkAtom b _)) (by simpa [cls, idsOf] using Off.upd (by simp) _) hb
        rw [hφ.com S j _ (by simp [allIds, cls, idsOf])] at this
        exact this
      · exact hb.elim
    · exact hr.elim
  | c C touch out =>
    simp only at hr ⊢
    rw [← hex]
    refine rd_step (hs := []) ⟨λ_ _ hj => by simp [ldIds] at hj, λ_ _ _ hj => by simp [ldIds] at hj⟩ hr λnx hh => ?_
    cases nx <;> first
      | exact hh.elim
      | exact ⟨hh.1, hh.2.1, useC_step (by simpa [allIds, cls, readsOf, idsOf] using hφ) hw hh.2.2 (λv S' ho h => hk v S' (by simpa [cls, idsOf] using ho) h) (λch S' h => hp ch S' h)⟩
  | o C touch out =>
    simp only at hr ⊢
    rw [← hmap]
    exact ⟨hr.1, hr.2.1, useC_step (by simpa [allIds, cls, readsOf, idsOf] using hφ) hw hr.2.2 (λv S' ho h => hk v S' (by simpa [cls, idsOf] using ho) h) (λch S' h => hp ch S' h)⟩
  | slu =>
    simp only [sluV] at hr ⊢
    split at hr
    · rename_i t x lo hi hop
      have hx := he x (by simp [hop, Op.operands])
      have hlo : ∀ d, optI T d lo = optI T' d lo := λd => optI_congr λy hy => he y (by subst hy; simp [hop, Op.operands])
      have hhi : ∀ d, optI T d hi = optI T' d hi := λd => optI_congr λy hy => he y (by subst hy; simp [hop, Op.operands])
      simp only [hop, ← hx, ← hlo, ← hhi]
      split at hr
      · split at hr
        · exact ⟨hr.1, λv => hk v S (Off.refl _ _) (hr.2 v)⟩
        · exact hr.elim
      · exact hr.elim
    · exact hr.elim
  | _ =>
    obtain ⟨v, hv, hkv⟩ := q_eq hr
    have h1 := q_congr (S' := φ S) hsel he (λj hj => (hφ.get S j (fo_ml _ hj)).symm) hv
    obtain ⟨u, hu, e⟩ := q_eq h1
    subst e
    exact q_mono hu (λa e => by subst e; exact hk _ S (Off.refl _ _) hkv)
end
end
section
open Go
section
variable {P : Program} {N : Nat} {H : Nat → OH} {ops : Array Oper} {ms : List Nat}
theorem opStep_step {o : Oper} {h : OH} {T T' : Tm} {S : St} {φ : St → St} {k k' : Tm → St → Prop} {kp kp' : List PanicEntry → Tm → St → Prop} (hsel : isSel o = false)
    (ha : Agr ops o T T') (hφ : Fr φ (allIds (cls (res P o h)))) (hw : Wide φ S) (hr : opStep P N ops o h T S k kp)
    (hk : ∀ v S', Off S S' (idsOf (cls (res P o h))) → k (putT N o.dst v T) S' → k' (putT N o.dst v T') (φ S')) (hp : ∀ ch S', kp ch T S' → kp' ch T' (φ S')) :
    opStep P N ops o h T' (φ S) k' kp' := by
  rw [opStep_gd] at hr ⊢
  rw [← gd_agr ha]
  split at hr
  · exact opRun_step hsel ha.evs hφ hw hr hk hp
  · exact hk _ _ (Off.refl _ _) hr
  · exact hr.elim
theorem wp_inhab {o : Oper} {a : Act} {w : World} {next : Act → World → Prop} (h : o.wp P a w next λ_ _ _ => False) : ∃ a' w', next a' w' := by
  unfold Oper.wp at h
  generalize (execOp a.eval o).run P w = r at h
  cases r with
  | ok n w' =>
    cases n <;> simp only [Oper.upon] at h <;> first
      | exact h.elim
      | exact ⟨_, _, h⟩
      | (obtain ⟨e, w2, fr, hR, _⟩ := h []
         cases e with
         | returned v => exact ⟨_, _, hR⟩
         | panicked ch => exact hR.elim
         | outgrown => obtain ⟨_, _, hf⟩ := hR; exact hf.elim)
      | (obtain ⟨v, w2, hR, _⟩ := h default []
         exact ⟨_, _, hR⟩)
  | halt x w' => cases x <;> simp only [Oper.upon] at h
theorem opStep_out {o : Oper} {h : OH} {T : Tm} {S : St} {k : Tm → St → Prop} {a : Act} {I : Imm} {w : World} {ds : List Deferred} (hsel : isSel o = false)
    (hr : opStep P N ops o h T S k λ_ _ _ => False) (hrel : Rel N T a) (hd : a.defers = ds) (hs : Sat I S w) :
    ∃ v S' J a' w', Off S S' (idsOf (cls (res P o h))) ∧ Rel N (putT N o.dst v T) a' ∧ a'.defers = ds ∧ Sat J S' w' ∧ k (putT N o.dst v T) S' := by
  have h1 : opStep P N ops o h T S (λT' S' => ∃ v, T' = putT N o.dst v T ∧ Off S S' (idsOf (cls (res P o h))) ∧ k T' S') (λ_ _ _ => False) :=
    opStep_step (φ := λS => S) hsel (λ_ _ => rfl) (Fr.id _) (Wide.id _) hr (λv S' ho hk => ⟨v, rfl, ho, hk⟩) (λ_ _ h => h)
  rw [opStep_gd] at h1
  split at h1
  · obtain ⟨a', w', haft⟩ := wp_inhab (opRun_sound (Q := λ_ _ _ => False) h1 hrel hd hs (λa' w' h => h) (λch a' w' h => by obtain ⟨_, _, _, _, _, _, _, _, hf⟩ := h; exact hf))
    obtain ⟨T', S', J, h1, h2, h3, h4, h5, v, rfl, ho, hk⟩ := haft
    exact ⟨v, S', J, a', w', ho, h1, h2, h4, hk⟩
  · obtain ⟨v, e, ho, hk⟩ := h1
    exact ⟨undef, S, I, a.put o.dst undef, w, ho, hrel.put _ _, by rw [put_defers]; exact hd, hs, hk⟩
  · exact h1.elim
theorem sealed_no {i r : Nat} {l : List Nat} (hi : i ∈ l) (hb : (ms.getD i 0).testBit r = false) : sealed ms r l = false := by
  unfold sealed
  cases hs : l.all λk => (ms.getD k 0).testBit r with
  | false => rfl
  | true =>
    have := List.all_eq_true.1 hs i hi
    rw [hb] at this
    cases this
abbrev cl (P : Program) (H : Nat → OH) (ops : Array Oper) (i : Nat) : Cls := cls (res P (opAt ops i) (H i))
structure Past (P : Program) (H : Nat → OH) (ops : Array Oper) (ms : List Nat) (i r : Nat) : Prop where
  bit : (ms.getD i 0).testBit r = false
  apart : (opAt ops i).apart ops (opAt ops r) = true
  pass : passes (cl P H ops r) (cl P H ops i) = true
  sel : isSel (opAt ops r) = false
theorem rgD_cons {i : Nat} {l : List Nat} {T : Tm} {S : St} {k : Tm → St → Prop} {kp : List PanicEntry → Tm → St → Prop} :
    rgD P N H ops ms (i :: l) T S k kp = opStep P N ops (opAt ops i) (H i) T S (λT S => rgD P N H ops ms l T S k kp) (match sealed ms i l with | true => λch _ S => ∀ T, kp ch T S | false => λ_ _ _ => False) := rfl
theorem drop_at {i : Nat} {R2 : List Nat} {φ : St → St} {v : Value} {k : Tm → St → Prop} {kp : List PanicEntry → Tm → St → Prop} (Good : Tm → St → Prop)
    (hend : ∀ T S K kp', Good T S → opStep P N ops (opAt ops i) (H i) T S K kp' → K (putT N (opAt ops i).dst v T) (φ S)) (hwide : ∀ T S, Good T S → Wide φ S) :
    ∀ (R1 : List Nat) {T : Tm} {S : St}, (∀ r, r ∈ R1 → Past P H ops ms i r ∧ Fr φ (allIds (cl P H ops r)) ∧ ∀ T S u S', Good T S → Off S S' (idsOf (cl P H ops r)) → Good (putT N (opAt ops r).dst u T) S') →
      Good T S → rgD P N H ops ms (R1 ++ i :: R2) T S k kp → rgD P N H ops ms (R1 ++ R2) (putT N (opAt ops i).dst v T) (φ S) k kp := by
  intro R1
  induction R1 with
  | nil =>
    intro T S _ hg hr
    exact hend T S _ _ hg hr
  | cons r R1 ih =>
    intro T S hpast hg hr
    obtain ⟨hp, hφ, hst⟩ := hpast r (fo_mc ..)
    rw [List.cons_append, rgD_cons] at hr ⊢
    have hun : sealed ms r (R1 ++ i :: R2) = false := sealed_no (List.mem_append_right _ (fo_mc ..)) hp.bit
    rw [hun] at hr
    refine opStep_step hp.sel (Agr.put hp.apart v T) hφ (hwide T S hg) hr (λu S' ho hk => ?_) (λch S' hf => hf.elim)
    have hg' := hst T S u S' hg ho
    have := ih (λr hr => hpast r (fo_mm _ hr)) hg' hk
    rw [putT_comm (x := (opAt ops i).dst) (y := (opAt ops r).dst) (λd hd => (Oper.apart_spec hp.apart).2.1 d hd)] at this
    exact this
theorem seen_at {i : Nat} {R2 : List Nat} {ds : List Deferred} {k : Tm → St → Prop} {kp : List PanicEntry → Tm → St → Prop} : ∀ (R1 : List Nat) {T : Tm} {S : St} {a : Act} {I : Imm} {w : World}, (∀ r, r ∈ R1 → Past P H ops ms i r) →
    (∀ r j, r ∈ R1 → j ∈ readsOf (cl P H ops i) → j ∉ idsOf (cl P H ops r)) → rgD P N H ops ms (R1 ++ i :: R2) T S k kp → Rel N T a → a.defers = ds → Sat I S w →
    ∃ T' S' K kp', opStep P N ops (opAt ops i) (H i) T' S' K kp' ∧ Agr ops (opAt ops i) T T' ∧ ∀ j, j ∈ readsOf (cl P H ops i) → gt S' j = gt S j := by
  intro R1
  induction R1 with
  | nil =>
    intro T S a I w _ _ hr _ _ _
    exact ⟨T, S, _, _, hr, λ_ _ => rfl, λ_ _ => rfl⟩
  | cons r R1 ih =>
    intro T S a I w hpast hrd hr hrel hd hs
    have hp := hpast r (fo_mc ..)
    rw [List.cons_append, rgD_cons] at hr
    have hun : sealed ms r (R1 ++ i :: R2) = false := sealed_no (List.mem_append_right _ (fo_mc ..)) hp.bit
    rw [hun] at hr
    obtain ⟨v, S', J, a', w', ho, hrel', hd', hs', hk⟩ := opStep_out hp.sel hr hrel hd hs
    obtain ⟨T2, S2, K, kp', h1, h2, h3⟩ := ih (λr hr => hpast r (fo_mm _ hr)) (λr j hr => hrd r j (fo_mm _ hr)) hk hrel' hd' hs'
    refine ⟨T2, S2, K, kp', h1, λt ht => ?_, λj hj => ?_⟩
    · exact ((Agr.put' hp.apart v T) t ht).trans (h2 t ht)
    · rw [h3 j hj]; exact ho j (hrd r j (fo_mc ..) hj)
theorem opRun_quiet {o : Oper} {h : OH} {T : Tm} {S : St} {k : Tm → St → Prop} {kp : List PanicEntry → Tm → St → Prop} {l : List Nat} (hc : cls (res P o h) = .quiet l) (hr : opRun P N o h T S k kp) :
    qRun P o (res P o h) T S λv => k (putT N o.dst v T) S := by
  unfold opRun at hr
  generalize res P o h = g at *
  cases g <;> first
    | exact hr
    | exact hr.no.elim
    | cases hc
theorem quiet_opRun {o : Oper} {h : OH} {T : Tm} {S : St} {k : Tm → St → Prop} {kp : List PanicEntry → Tm → St → Prop} {l : List Nat} (hc : cls (res P o h) = .quiet l) (hr : qRun P o (res P o h) T S λv => k (putT N o.dst v T) S) :
    opRun P N o h T S k kp := by
  unfold opRun
  generalize res P o h = g at *
  cases g <;> first
    | exact hr
    | exact hr.elim
    | cases hc
theorem disj_spec {a b : List Nat} (h : disj a b = true) : ∀ i, i ∈ a → i ∉ b := by
  intro i hi hb
  have := List.all_eq_true.1 (List.all_eq_true.1 h i hi) i hb
  simp at this
theorem move {i : Nat} {R1 R2 : List Nat} {T : Tm} {S : St} {a : Act} {I : Imm} {w : World} {ds : List Deferred} {k : Tm → St → Prop} {kp : List PanicEntry → Tm → St → Prop}
    (hsel : isSel (opAt ops i) = false) (hpast : ∀ r, r ∈ R1 → Past P H ops ms i r) (hfresh : ∀ j, cl P H ops i = .new j → gt S j = .emp)
    (hr : rgD P N H ops ms (R1 ++ i :: R2) T S k kp) (hrel : Rel N T a) (hd : a.defers = ds) (hs : Sat I S w) :
    opStep P N ops (opAt ops i) (H i) T S (λT S => rgD P N H ops ms (R1 ++ R2) T S k kp) (match sealed ms i R2 with | true => λch _ S => ∀ T, kp ch T S | false => λ_ _ _ => False) := by
  have hex : ∀ {T T'}, Agr ops (opAt ops i) T T' → execOp (ev T) (opAt ops i) = execOp (ev T') (opAt ops i) := λh => execOp_congr _ (notSel hsel) h.evs
  rw [opStep_gd]
  have hseen := λ(hrd : ∀ r j, r ∈ R1 → j ∈ readsOf (cl P H ops i) → j ∉ idsOf (cl P H ops r)) => seen_at (ds := ds) R1 hpast hrd hr hrel hd hs
  cases hg : gd ops (opAt ops i) T with
  | none =>
    exfalso
    cases hc : cl P H ops i with
    | quiet l =>
      obtain ⟨T', S', K, kp', h1, h2, _⟩ := hseen (λr j hr hj => by
        have hp := (hpast r hr).pass
        rw [hc] at hp hj
        revert hp
        cases hcr : cl P H ops r <;> intro hp <;> simp only [passes] at hp <;> simp only [idsOf]
        · simp
        · exact disj_spec hp j hj
        · exact disj_spec hp j hj)
      rw [opStep_gd, ← gd_agr h2, hg] at h1
      exact h1
    | new l =>
      obtain ⟨T', S', K, kp', h1, h2, _⟩ := hseen (λr j hr hj => by rw [hc] at hj; simp [readsOf] at hj)
      rw [opStep_gd, ← gd_agr h2, hg] at h1
      exact h1
    | eff l =>
      obtain ⟨T', S', K, kp', h1, h2, _⟩ := hseen (λr j hr hj => by rw [hc] at hj; simp [readsOf] at hj)
      rw [opStep_gd, ← gd_agr h2, hg] at h1
      exact h1
  | some met =>
    cases met with
    | false =>
      refine drop_at (φ := λS => S) (λT _ => gd ops (opAt ops i) T = some false) (λT S K kp' hg h => ?_) (λ_ _ _ => Wide.id _) R1 (λr hr => ⟨hpast r hr, Fr.id _, λT S u S' hg _ => ?_⟩) hg hr
      · rw [opStep_gd, hg] at h; exact h
      · rw [← gd_agr (Agr.put' (hpast r hr).apart u T)]; exact hg
    | true =>
      simp only
      cases hc : cl P H ops i with
      | quiet l =>
        have hoff : ∀ r j, r ∈ R1 → j ∈ readsOf (cl P H ops i) → j ∉ idsOf (cl P H ops r) := λr j hr hj => by
          have hp := (hpast r hr).pass
          rw [hc] at hp hj
          revert hp
          cases hcr : cl P H ops r <;> intro hp <;> simp only [passes] at hp <;> simp only [idsOf]
          · simp
          · exact disj_spec hp j hj
          · exact disj_spec hp j hj
        have hcl : ∀ j, j ∈ readsOf (cls (res P (opAt ops i) (H i))) → j ∈ readsOf (cl P H ops i) := λj hj => hj
        obtain ⟨T', S', K, kp', h1, h2, h3⟩ := hseen hoff
        rw [opStep_gd, ← gd_agr h2, hg] at h1
        obtain ⟨v, hv, _⟩ := q_eq (opRun_quiet hc h1)
        have hv' : qRun P (opAt ops i) (res P (opAt ops i) (H i)) T S (· = v) := q_congr hsel (λx hx => (h2.evs x hx).symm) (λj hj => h3 j hj) hv
        obtain ⟨u, hu, _⟩ := q_val hv' hs
        refine quiet_opRun hc (q_mono hv' λx e => ?_)
        subst e
        refine drop_at (φ := λS => S) (λT S => gd ops (opAt ops i) T = some true ∧ ∀ v', qRun P (opAt ops i) (res P (opAt ops i) (H i)) T S (· = v') → v' = x) (λT S K kp' hg h => ?_) (λ_ _ _ => Wide.id _) R1
          (λr hr => ⟨hpast r hr, Fr.id _, λT S u S' hg ho => ⟨?_, λv' hv' => ?_⟩⟩) ⟨hg, λv' hv2 => ?_⟩ hr
        · rw [opStep_gd, hg.1] at h
          obtain ⟨y, hy, hk⟩ := q_eq (opRun_quiet hc h)
          rw [hg.2 y hy] at hk
          exact hk
        · rw [← gd_agr (Agr.put' (hpast r hr).apart u T)]; exact hg.1
        · exact hg.2 v' (q_congr hsel (λx hx => ((Agr.put' (hpast r hr).apart u T).evs x hx).symm) (λj hj => ho j (hoff r j hr hj)) hv')
        · obtain ⟨y, hy, e⟩ := q_val hv2 hs
          obtain ⟨z, hz, e2⟩ := q_val hv' hs
          rw [← e, ← e2]
          exact hy.unique hz
      | new j =>
        obtain ⟨T', S', K, kp', h1, h2, _⟩ := hseen (λr j hr hj => by rw [hc] at hj; simp [readsOf] at hj)
        rw [opStep_gd, ← gd_agr h2, hg] at h1
        have hres : ∃ j', res P (opAt ops i) (H i) = .n j' ∧ j' = j := by
          revert hc
          show cls (res P (opAt ops i) (H i)) = .new j → _
          generalize res P (opAt ops i) (H i) = g
          intro hc
          cases g <;> simp only [cls] at hc <;> first | exact ⟨_, rfl, by simpa using hc⟩ | cases hc
        obtain ⟨j', hres, rfl⟩ := hres
        unfold opRun at h1 ⊢
        rw [hres] at h1 ⊢
        simp only at h1 ⊢
        rw [← hex h2] at h1
        split at h1
        · rename_i ob f hal
          intro b
          have hb := h1 b
          split at hb
          · rename_i v hv
            refine drop_at (φ := λS => updS S j' (mkAtom b ob)) (λT S => gd ops (opAt ops i) T = some true ∧ alF P (execOp (ev T) (opAt ops i)) = some (ob, f) ∧ gt S j' = .emp) (λT S K kp' hg h => ?_) (λ_ _ hg => Wide.upd hg.2.2 _) R1
              (λr hr => ⟨hpast r hr, Fr.upd (λhm => ?_) _, λT S u S' hg ho => ⟨?_, ?_, ?_⟩⟩) ⟨hg, hal, hfresh j' hc⟩ hr
            · rw [opStep_gd, hg.1] at h
              unfold opRun at h
              rw [hres] at h
              simp only [hg.2.1] at h
              have := h b
              rw [hv] at this
              exact this
            · have hp := (hpast r hr).pass
              rw [hc] at hp
              revert hp hm
              cases hcr : cl P H ops r <;> intro hm hp <;> simp only [passes] at hp <;> simp only [allIds, readsOf, idsOf, fo_an, List.nil_append] at hm
              · exact disj_spec hp j' hm (by simp)
              · simp only [List.mem_singleton] at hm; subst hm; simp at hp
              · exact disj_spec hp j' (by simp) hm
            · rw [← gd_agr (Agr.put' (hpast r hr).apart u T)]; exact hg.1
            · rw [← hex (Agr.put' (hpast r hr).apart u T)]; exact hg.2.1
            · rw [ho j' (λhm => ?_)]; exact hg.2.2
              have hp := (hpast r hr).pass
              rw [hc] at hp
              revert hp hm
              cases hcr : cl P H ops r <;> intro hm hp <;> simp only [passes] at hp <;> simp only [idsOf] at hm
              · simp at hm
              · simp only [List.mem_singleton] at hm; subst hm; simp at hp
              · exact disj_spec hp j' (by simp) hm
          · exact hb.elim
        · exact h1.elim
      | eff ids =>
        
        have hq : ∀ r, r ∈ R1 → ∃ l, cl P H ops r = .quiet l ∧ ∀ j, j ∈ l → j ∉ ids := λr hr => by
          have hp := (hpast r hr).pass
          rw [hc] at hp
          cases hcr : cl P H ops r with
          | quiet l => rw [hcr] at hp; exact ⟨l, rfl, λj hj => disj_spec hp j hj⟩
          | new j => rw [hcr] at hp; cases hp
          | eff l => rw [hcr] at hp; cases hp
        clear hseen hfresh hrel hs hd
        induction R1 generalizing T S with
        | nil =>
          have hr' : opStep P N ops (opAt ops i) (H i) T S _ _ := hr
          rw [opStep_gd, hg] at hr'
          exact hr'
        | cons r R1 ih =>
          have hp := hpast r (fo_mc ..)
          obtain ⟨l, hl, hld⟩ := hq r (fo_mc ..)
          rw [List.cons_append, rgD_cons] at hr
          have step : ∀ u, rgD P N H ops ms (R1 ++ i :: R2) (putT N (opAt ops r).dst u T) S k kp →
              (∀ v S', Off S S' ids → rgD P N H ops ms (R1 ++ R2) (putT N (opAt ops i).dst v (putT N (opAt ops r).dst u T)) S' k kp → rgD P N H ops ms (r :: (R1 ++ R2)) (putT N (opAt ops i).dst v T) S' k kp) →
              opRun P N (opAt ops i) (H i) T S (λT S => rgD P N H ops ms (r :: (R1 ++ R2)) T S k kp) (match sealed ms i R2 with | true => λch _ S => ∀ T, kp ch T S | false => λ_ _ _ => False) := by
            intro u hk hback
            have ha := Agr.put' (N := N) hp.apart u T
            have := ih (T := putT N (opAt ops r).dst u T) (S := S) (λr hr => hpast r (fo_mm _ hr)) hk (by rw [← gd_agr ha]; exact hg) (λr hr => hq r (fo_mm _ hr))
            refine opRun_step (φ := λS => S) hsel (λx hx => (ha.evs x hx).symm) (Fr.id _) (Wide.id _) this (λv S' ho hh => hback v S' (ho.mono λj hj => ?_) hh) (λch S' hh => ?_)
            · have : idsOf (cl P H ops i) = ids := by rw [hc]; rfl
              rw [← this]; exact hj
            · revert hh; cases sealed ms i R2 <;> exact λh => h
          rw [opStep_gd] at hr
          cases hgr : gd ops (opAt ops r) T with
          | none => rw [hgr] at hr; exact hr.elim
          | some met =>
            cases met with
            | false =>
              rw [hgr] at hr
              refine step undef hr λv S' ho hh => ?_
              rw [rgD_cons, opStep_gd, ← gd_agr (Agr.put hp.apart v T), hgr]
              rw [putT_comm (x := (opAt ops i).dst) (y := (opAt ops r).dst) (λd hd => (Oper.apart_spec hp.apart).2.1 d hd)] at hh
              exact hh
            | true =>
              rw [hgr] at hr
              obtain ⟨u, hu, hk⟩ := q_eq (opRun_quiet hl hr)
              refine step u hk λv S' ho hh => ?_
              rw [rgD_cons, opStep_gd, ← gd_agr (Agr.put hp.apart v T), hgr]
              refine quiet_opRun hl ?_
              have hrs : readsOf (cls (res P (opAt ops r) (H r))) = l := by
                have : cls (res P (opAt ops r) (H r)) = .quiet l := hl
                rw [this]; rfl
              refine q_mono (q_congr hp.sel (λx hx => (Agr.put hp.apart v T).evs x hx) (λj hj => ?_) hu) (λx e => ?_)
              · rw [hrs] at hj
                exact (ho j (hld j hj)).symm
              · subst e
                rw [putT_comm (x := (opAt ops i).dst) (y := (opAt ops r).dst) (λd hd => (Oper.apart_spec hp.apart).2.1 d hd)] at hh
                exact hh
theorem foldr_mask {acc : List Nat} {r : Nat} : ∀ (es : List Edge), (es.foldr (λe s => bif Region.binds .any e then (2 ^ e.on ||| acc.getD e.on 0) ||| s else s) 0).testBit r = true →
    ∃ e, e ∈ es ∧ Region.binds .any e = true ∧ (e.on = r ∨ (acc.getD e.on 0).testBit r = true) := by
  intro es
  induction es with
  | nil => intro h; simp at h
  | cons e es ih =>
    intro h
    simp only [List.foldr_cons] at h
    cases hb : Region.binds .any e with
    | false =>
      rw [hb] at h
      obtain ⟨e', h1, h2⟩ := ih h
      exact ⟨e', fo_mm _ h1, h2⟩
    | true =>
      rw [hb] at h
      simp only [fo_ct, Nat.testBit_or, Bool.or_eq_true, Nat.testBit_two_pow] at h
      rcases h with (h | h) | h
      · exact ⟨e, fo_mc .., hb, .inl (by simpa using h)⟩
      · exact ⟨e, fo_mc .., hb, .inr h⟩
      · obtain ⟨e', h1, h2⟩ := ih h
        exact ⟨e', fo_mm _ h1, h2⟩
theorem mask_foldr {acc : List Nat} : ∀ (es : List Edge) {e : Edge}, e ∈ es → Region.binds .any e = true → (es.foldr (λe s => bif Region.binds .any e then (2 ^ e.on ||| acc.getD e.on 0) ||| s else s) 0).testBit e.on = true := by
  intro es
  induction es with
  | nil => intro e h; cases h
  | cons x es ih =>
    intro e h hb
    simp only [List.foldr_cons]
    rcases List.mem_cons.1 h with rfl | h
    · rw [hb]; simp [Nat.testBit_or, Nat.testBit_two_pow]
    · have := ih h hb
      cases Region.binds .any x <;> simp only [Nat.testBit_or, this, fo_bot, fo_ct, fo_cf]
def Closed (ops : Array Oper) (listed : Array Bool) : Prop := ∀ i o, ops[i]? = some o → listed.getD i false = true → ∀ e, e ∈ o.after.toList → Region.binds .any e = true → listed.getD e.on false = true
theorem masks_ok (listed : Array Bool) (hc : Closed ops listed) : ∀ (l : List Oper) (acc : List Nat), (∀ j, l[j]? = ops[acc.length + j]?) →
    (∀ i, i < acc.length → ∀ o, ops[i]? = some o → (∀ e, e ∈ o.after.toList → Region.binds .any e = true → listed.getD e.on false = true) → ∀ r, (acc.getD i 0).testBit r = true → listed.getD r false = true) →
    ∀ i o, ops[i]? = some o → (∀ e, e ∈ o.after.toList → Region.binds .any e = true → listed.getD e.on false = true) → ∀ r, ((masks l acc).getD i 0).testBit r = true → i < acc.length + l.length → listed.getD r false = true := by
  intro l
  induction l with
  | nil =>
    intro acc _ hacc i o ho hpre r hr hi
    exact hacc i (by simpa using hi) o ho hpre r hr
  | cons o l ih =>
    intro acc hl hacc i o' ho hpre r hr hi
    refine ih (acc ++ [mask o acc]) (λj => ?_) (λi' hi' o2 ho2 hpre2 r2 hr2 => ?_) i o' ho hpre r hr (by simp at hi ⊢; omega)
    · have := hl (j + 1)
      simp only [List.getElem?_cons_succ] at this
      rw [this]; simp; congr 1; omega
    · by_cases hlt : i' < acc.length
      · refine hacc i' hlt o2 ho2 hpre2 r2 ?_
        rw [fo_gd, fo_gl hlt, ← fo_gd] at hr2
        exact hr2
      · have hi2 : i' = acc.length := by simp at hi'; omega
        subst hi2
        have ho3 : some o = ops[acc.length]? := by simpa using hl 0
        rw [← ho3] at ho2
        simp only [Option.some.injEq] at ho2
        subst ho2
        rw [fo_gd, fo_gr2 (fo_nr _)] at hr2
        simp only [Nat.sub_self, List.getElem?_cons_zero, Option.getD_some] at hr2
        obtain ⟨e, h1, h2, h3⟩ := foldr_mask _ hr2
        have hle := hpre2 e h1 h2
        rcases h3 with rfl | h3
        · exact hle
        · by_cases hon : e.on < acc.length
          · have hon' : ∃ o4, ops[e.on]? = some o4 := by
              have hsz : acc.length < ops.size := by
                rcases Nat.lt_or_ge acc.length ops.size with h | h
                · exact h
                · simp [Array.getElem?_eq_none h] at ho3
              exact ⟨ops[e.on], by simp [show e.on < ops.size by omega]⟩
            obtain ⟨o4, ho4⟩ := hon'
            exact hacc e.on hon o4 ho4 (hc e.on o4 ho4 hle) r2 h3
          · rw [fo_gd, fo_gn (by omega)] at h3
            simp at h3
theorem mask_edge {i : Nat} {o : Oper} (ho : ops[i]? = some o) {e : Edge} (he : e ∈ o.after.toList) (hb : Region.binds .any e = true) : ((masks ops.toList []).getD i 0).testBit e.on = true := by
  have key : ∀ (l : List Oper) (acc : List Nat), (∀ j, l[j]? = ops[acc.length + j]?) → acc.length ≤ i → i < acc.length + l.length → ((masks l acc).getD i 0).testBit e.on = true := by
    intro l
    induction l with
    | nil => intro acc _ h1 h2; simp at h2; omega
    | cons x l ih =>
      intro acc hl h1 h2
      simp only [masks]
      by_cases hi : i = acc.length
      · subst hi
        have hx : x = o := by have := hl 0; simp at this; rw [← this] at ho; simpa using ho
        subst hx
        have keep : ∀ (l : List Oper) (acc : List Nat) (j : Nat), j < acc.length → (masks l acc).getD j 0 = acc.getD j 0 := by
          intro l
          induction l with
          | nil => intro acc j _; rfl
          | cons y l ih =>
            intro acc j hj
            simp only [masks]
            rw [ih _ j (by simp; omega)]
            simp only [fo_gd, fo_gl hj]
        rw [keep l _ _ (by simp)]
        rw [fo_gd, fo_gr2 (fo_nr _)]
        simp only [Nat.sub_self, List.getElem?_cons_zero, Option.getD_some]
        exact mask_foldr _ he hb
      · refine ih (acc ++ [mask x acc]) (λj => ?_) (by simp; omega) (by simp at h2 ⊢; omega)
        have := hl (j + 1)
        simp only [List.getElem?_cons_succ] at this
        rw [this]; simp; congr 1; omega
  refine key ops.toList [] (λj => by simp) (fo_zl _) ?_
  rcases Nat.lt_or_ge i ops.size with h | h
  · simpa using h
  · simp [Array.getElem?_eq_none h] at ho
theorem pairsOk_split {R1 R2 : List Nat} {i : Nat} (h : pairsOk P H ops ms (R1 ++ i :: R2) = true) : (∀ r, r ∈ R1 → pairOk P H ops ms r i = true) ∧ pairsOk P H ops ms (R1 ++ R2) = true ∧ (∀ r, r ∈ R2 → pairOk P H ops ms i r = true) := by
  induction R1 with
  | nil =>
    simp only [List.nil_append, pairsOk, fo_bae, List.all_eq_true] at h ⊢
    exact ⟨λr hr => (by cases hr), h.2, h.1⟩
  | cons r R1 ih =>
    simp only [List.cons_append, pairsOk, fo_bae, List.all_eq_true] at h ⊢
    obtain ⟨h1, h2, h3⟩ := ih h.2
    refine ⟨λr' hr' => ?_, ⟨λk hk => h.1 k ?_, h2⟩, h3⟩
    · rcases List.mem_cons.1 hr' with rfl | hr'
      · exact h.1 i (by simp)
      · exact h1 r' hr'
    · rcases List.mem_append.1 hk with hk | hk
      · exact fo_ml _ hk
      · exact List.mem_append_right _ (fo_mm _ hk)
structure Drawn (P : Program) (N : Nat) (H : Nat → OH) (ops : Array Oper) (ds : List Deferred) (k : Tm → St → Prop) (kp : List PanicEntry → Tm → St → Prop) (listed : Array Bool) (l : List Nat) (T : Tm) (S : St) (I : Imm) (a : Act) (w : World) : Prop where
  size : listed.size = ops.size
  mem : ∀ i, i < ops.size → (i ∈ l ↔ listed.getD i true = false)
  lt : ∀ i, i ∈ l → i < ops.size
  nodup : l.Nodup
  closed : Closed ops listed
  pairs : pairsOk P H ops (masks ops.toList []) l = true
  run : rgD P N H ops (masks ops.toList []) l T S k kp
  fresh : ∀ i j, i ∈ l → cl P H ops i = .new j → gt S j = .emp
  rel : Rel N T a
  defers : a.defers = ds
  sat : Sat I S w
theorem any_sound {ds : List Deferred} {Q : Exit → Act → World → Prop} {k : Tm → St → Prop} {kp : List PanicEntry → Tm → St → Prop} {I0 : Imm} {w0 : World}
    (hsel : ∀ i, i < ops.size → isSel (opAt ops i) = false) (hedge : ∀ (i : Nat) (o : Oper), ops[i]? = some o → ∀ e : Edge, e ∈ o.after.toList → Region.binds .any e = true → e.on < ops.size)
    (hself : ∀ i, i < ops.size → ((masks ops.toList []).getD i 0).testBit i = false)
    (hk : ∀ a' w', Aft N I0 w0 ds k a' w' → Q .normal a' w') (hQ : ∀ ch a' w', Aft N I0 w0 ds (kp ch) a' w' → Q (.panic ch) a' w') :
    ∀ (fuel : Nat) {listed : Array Bool} {l : List Nat} {T : Tm} {S : St} {I : Imm} {a : Act} {w : World}, l.length ≤ fuel → Imm.le I0 I → Env w0 w → Drawn P N H ops ds k kp listed l T S I a w → wpAny P .any ops Q fuel listed a w := by
  intro fuel
  
  have head : ∀ {listed : Array Bool} {r : Nat} {l : List Nat} {T : Tm} {S : St} {I : Imm} {a : Act} {w : World}, Drawn P N H ops ds k kp listed (r :: l) T S I a w → r ∈ Region.ready .any ops listed := by
    intro listed r l T S I a w D
    have hr := D.lt r (fo_mc ..)
    have hrl := (D.mem r hr).1 (fo_mc ..)
    have hop : ops[r]? = some ops[r] := by simp [hr]
    unfold Region.ready
    refine List.mem_filter.2 ⟨List.mem_range.2 hr, ?_⟩
    simp only [hrl, Bool.not_false, Bool.true_and, hop, Option.map_some, Option.getD_some]
    rw [← Array.all_toList, List.all_eq_true]
    intro e he
    cases hb : Region.binds .any e with
    | false => rfl
    | true =>
      simp only [Bool.not_true, Bool.false_or]
      have hlt := hedge r _ hop e he hb
      have hbit := mask_edge hop he hb
      cases hl : listed.getD e.on true with
      | true =>
        have : e.on < listed.size := by rw [D.size]; exact hlt
        simpa [fo_agd, this] using hl
      | false =>
        exfalso
        have hm := (D.mem e.on hlt).2 hl
        rcases List.mem_cons.1 hm with e1 | hm
        · rw [e1, hself r hr] at hbit; cases hbit
        · have hp := D.pairs
          simp only [pairsOk, fo_bae, List.all_eq_true] at hp
          have := hp.1 _ hm
          simp only [pairOk, fo_bae, Bool.not_eq_true'] at this
          rw [this.1.1] at hbit
          cases hbit
  have done : ∀ {listed : Array Bool} {l : List Nat} {T : Tm} {S : St} {I : Imm} {a : Act} {w : World}, Imm.le I0 I → Env w0 w → Drawn P N H ops ds k kp listed l T S I a w → Region.ready .any ops listed = [] → Q .normal a w := by
    intro listed l T S I a w hle henv D h0
    cases l with
    | nil => exact hk _ _ ⟨T, S, I, D.rel, D.defers, hle, D.sat, henv, D.run⟩
    | cons r l => have := head D; rw [h0] at this; cases this
  induction fuel with
  | zero =>
    intro listed l T S I a w hl hle henv D
    have : l = [] := List.length_eq_zero_iff.1 (Nat.le_zero.1 hl)
    subst this
    have hr : Region.ready .any ops listed = [] := by
      unfold Region.ready
      refine List.filter_eq_nil_iff.2 λi hi => ?_
      have hi' := List.mem_range.1 hi
      have : listed.getD i true = true := by
        cases hh : listed.getD i true with
        | true => rfl
        | false => have := (D.mem i hi').2 hh; cases this
      simp [this]
    exact ⟨hr, done hle henv D hr⟩
  | succ fuel ih =>
    intro listed l T S I a w hl hle henv D
    refine ⟨done hle henv D, λi hi => ?_⟩
    obtain ⟨hi1, hi2⟩ := List.mem_filter.1 hi
    have hlt := List.mem_range.1 hi1
    have hop : ops[i]? = some ops[i] := by simp [hlt]
    have hoa : opAt ops i = ops[i] := by simp [opAt, fo_agd, hop]
    simp only [fo_bae, Bool.not_eq_true', hop, Option.map_some, Option.getD_some] at hi2
    obtain ⟨hnl, hpre⟩ := hi2
    rw [← Array.all_toList, List.all_eq_true] at hpre
    have hpre' : ∀ e, e ∈ ops[i].after.toList → Region.binds .any e = true → listed.getD e.on false = true := λe he hb => by
      have := hpre e he
      rw [hb] at this
      simpa using this
    have hmem := (D.mem i hlt).2 hnl
    obtain ⟨R1, R2, rfl⟩ := List.append_of_mem hmem
    obtain ⟨hp1, hp2, hp3⟩ := pairsOk_split D.pairs
    have hsz : ∀ r, r < ops.size → listed.getD r true = false → listed.getD r false = false := λr hr h => by
      have : r < listed.size := by rw [D.size]; exact hr
      simpa [fo_agd, this] using h
    have hbit : ∀ r, r ∈ R1 → ((masks ops.toList []).getD i 0).testBit r = false := λr hr => by
      cases hb : ((masks ops.toList []).getD i 0).testBit r with
      | false => rfl
      | true =>
        have hrm : r ∈ R1 ++ i :: R2 := fo_ml _ hr
        have hrlt := D.lt r hrm
        have := masks_ok listed D.closed ops.toList [] (λj => by simp) (λi hi => by simp at hi) i ops[i] hop hpre' r hb (by simpa using hlt)
        rw [hsz r hrlt ((D.mem r hrlt).1 hrm)] at this
        cases this
    have hpast : ∀ r, r ∈ R1 → Past P H ops (masks ops.toList []) i r := λr hr => by
      have := hp1 r hr
      simp only [pairOk, fo_bae, hbit r hr, Bool.false_or] at this
      exact ⟨hbit r hr, this.2.1, this.2.2, hsel r (D.lt r (fo_ml _ hr))⟩
    have hmv := move (kp := kp) (hsel i hlt) hpast (λj hj => D.fresh i j hmem hj) D.run D.rel D.defers D.sat
    have hnd : (R1 ++ R2).Nodup ∧ i ∉ R1 ++ R2 := by
      have := D.nodup
      rw [List.nodup_append] at this
      obtain ⟨h1, h2, h3⟩ := this
      rw [List.nodup_cons] at h2
      refine ⟨List.nodup_append.2 ⟨h1, h2.2, λa ha b hb => h3 a ha b (fo_mm _ hb)⟩, λhm => ?_⟩
      rcases List.mem_append.1 hm with hm | hm
      · exact h3 i hm i (fo_mc ..) rfl
      · exact h2.1 hm
    unfold wpOp
    rw [hop]
    simp only
    have hmv' : opStep P N ops (opAt ops i) (H i) T S (λT' S' => (∀ r j, r ∈ R1 ++ R2 → cl P H ops r = .new j → gt S' j = .emp) ∧ rgD P N H ops (masks ops.toList []) (R1 ++ R2) T' S' k kp)
        (match sealed (masks ops.toList []) i R2 with | true => λch _ S => ∀ T, kp ch T S | false => λ_ _ _ => False) := by
      refine opStep_step (φ := λS => S) (hsel i hlt) (λ_ _ => rfl) (Fr.id _) (Wide.id _) hmv (λv S' ho hh => ⟨λr j hr hj => ?_, hh⟩) (λ_ _ h => h)
      have hrm : r ∈ R1 ++ i :: R2 := by
        rcases List.mem_append.1 hr with hr | hr
        · exact fo_ml _ hr
        · exact List.mem_append_right _ (fo_mm _ hr)
      rw [ho j ?_]
      · exact D.fresh r j hrm hj
      intro hm
      rcases List.mem_append.1 hr with hr | hr
      · 
        have hps := (hpast r hr).pass
        rw [hj] at hps
        have hm' : j ∈ idsOf (cl P H ops i) := hm
        revert hps hm'
        cases cl P H ops i <;> intro hps hm' <;> simp only [passes] at hps <;> simp only [idsOf] at hm'
        · simp at hm'
        · simp only [List.mem_singleton] at hm'; subst hm'; simp at hps
        · cases hps
      · 
        have := hp3 r hr
        simp only [pairOk, fo_bae] at this
        have hu := this.1.2
        have hjr : cls (res P (opAt ops r) (H r)) = .new j := hj
        rw [hjr] at hu
        exact disj_spec hu j (by simp) (List.mem_append_right _ hm)
    have := opStep_sound (next := wpAny P .any ops Q fuel (listed.setIfInBounds i true)) (Q := Q) hmv' D.rel D.defers D.sat (λa' w' haft => ?_) (λch a' w' haft => ?_)
    · rw [hoa] at this; exact this
    · obtain ⟨T', S', J, h1, h2, h3, h4, h5, hf, h6⟩ := haft
      refine ih (l := R1 ++ R2) (T := T') (S := S') (I := J) (by simp at hl ⊢; omega) (Imm.le_trans hle h3) (henv.trans h5) ?_
      refine ⟨by simpa using D.size, λj hj => ?_, λj hj => D.lt j ?_, hnd.1, ?_, hp2, h6, hf, h1, h2, h4⟩
      · have hjs : j < listed.size := by rw [D.size]; exact hj
        by_cases hji : j = i
        · subst hji
          refine ⟨λhm => absurd hm hnd.2, λhh => ?_⟩
          simp [fo_agd, hjs] at hh
        · have hm := D.mem j hj
          have e1 : (listed.setIfInBounds i true).getD j true = listed.getD j true := by
            simp [fo_agd, Array.getElem?_setIfInBounds, show ¬ i = j from λe => hji e.symm]
          rw [e1, ← hm]
          simp [hji]
      · rcases List.mem_append.1 hj with hj | hj
        · exact fo_ml _ hj
        · exact List.mem_append_right _ (fo_mm _ hj)
      · intro j o ho hl2 e he hb
        have mono : ∀ x, listed.getD x false = true → (listed.setIfInBounds i true).getD x false = true := λx hx => by
          by_cases hxi : i = x
          · subst hxi
            have : i < listed.size := by rw [D.size]; exact hlt
            simp [fo_agd, this]
          · simpa [fo_agd, Array.getElem?_setIfInBounds, hxi] using hx
        by_cases hji : i = j
        · subst hji
          rw [hop] at ho
          simp only [Option.some.injEq] at ho
          subst ho
          exact mono _ (hpre' e he hb)
        · refine mono _ (D.closed j o ho ?_ e he hb)
          simpa [fo_agd, Array.getElem?_setIfInBounds, hji] using hl2
    · refine hQ ch a' w' ((haft.from hle henv).mono λT S h => ?_)
      revert h
      cases sealed (masks ops.toList []) i R2
      · exact λh => h.elim
      · exact λh => h T
theorem nodup_le : ∀ (n : Nat) (l : List Nat), l.Nodup → (∀ x, x ∈ l → x < n) → l.length ≤ n := by
  intro n
  induction n with
  | zero =>
    intro l _ h
    cases l with
    | nil => simp
    | cons x r => have := h x (fo_mc ..); omega
  | succ n ih =>
    intro l hn h
    by_cases hm : n ∈ l
    · have h1 := ih (l.erase n) (hn.erase n) λx hx => by
        have := hn.mem_erase_iff.1 hx
        have := h x this.2
        omega
      have h2 := List.length_erase_of_mem hm
      omega
    · have := ih l hn λx hx => by
        have h1 := h x hx
        have : x ≠ n := λe => hm (e ▸ hx)
        omega
      omega
theorem draw_sound {l : List Nat} {ds : List Deferred} {Q : Exit → Act → World → Prop} {T : Tm} {S : St} {k : Tm → St → Prop} {kp : List PanicEntry → Tm → St → Prop} {a : Act} {I : Imm} {w : World}
    (hl : (orderOk P H ops l && freshB S (newIds P H ops l)) = true) (hr : rgD P N H ops (masks ops.toList []) l T S k kp) (hrel : Rel N T a) (hd : a.defers = ds) (hs : Sat I S w)
    (hk : ∀ a' w', Aft N I w ds k a' w' → Q .normal a' w') (hQ : ∀ ch a' w', Aft N I w ds (kp ch) a' w' → Q (.panic ch) a' w') :
    wpAny P .any ops Q ops.size (Array.replicate ops.size false) a w := by
  simp only [orderOk, fo_bae] at hl
  obtain ⟨⟨⟨⟨⟨h1, h2⟩, h3⟩, h4⟩, h5⟩, h6⟩ := hl
  have hnd := nodupB_spec h2
  have hlen : l.length = ops.size := by simpa using h3
  rw [List.all_eq_true] at h1 h4
  have hlt : ∀ i, i ∈ l → i < ops.size := λi hi => by
    have := h4 i hi
    simp only [fo_bae] at this
    have := this.1
    rw [Nat.blt_eq] at this
    exact this
  have hall : ∀ i, i < ops.size → i ∈ l := by
    intro i hi
    refine Classical.byContradiction λhni => ?_
    have := nodup_le ops.size (i :: l) (List.nodup_cons.2 ⟨hni, hnd⟩) λx hx => by
      rcases List.mem_cons.1 hx with rfl | hx
      · exact hi
      · exact hlt x hx
    simp at this
    omega
  have hopm : ∀ i, i < ops.size → opAt ops i ∈ ops.toList := λi hi => by
    have : opAt ops i = ops[i] := by simp [opAt, fo_agd, hi]
    rw [this]; simp
  refine any_sound (k := k) (kp := kp) (H := H) (I0 := I) (w0 := w) (λi hi => ?_) (λi o ho e he hb => ?_) (λi hi => ?_) hk hQ ops.size (l := l) (T := T) (S := S) (I := I) (by omega) (Imm.le_refl I) (Env.refl w)
    ⟨by simp, λi hi => ?_, hlt, hnd, λi o _ hli => ?_, h5, hr, λi j hi hj => ?_, hrel, hd, hs⟩
  · have := h1 _ (hopm i hi)
    simp only [fo_bae, Bool.not_eq_true'] at this
    exact this.1
  · have hi : i < ops.size := by
      rcases Nat.lt_or_ge i ops.size with h | h
      · exact h
      · simp [Array.getElem?_eq_none h] at ho
    have := h1 o (by rw [← Array.getElem?_toList] at ho; exact fo_mg ho)
    simp only [fo_bae, List.all_eq_true] at this
    have := this.2 e he
    rw [hb] at this
    simp only [Bool.not_true, Bool.false_or] at this
    rw [Nat.blt_eq] at this
    exact this
  · have := h4 i (hall i hi)
    simp only [fo_bae, Bool.not_eq_true'] at this
    exact this.2
  · exact ⟨λ_ => by simp [fo_agd, hi], λ_ => hall i hi⟩
  · exfalso
    simp [fo_agd, Array.getElem?_replicate] at hli
    split at hli <;> simp at hli
  · have hm : j ∈ newIds P H ops l := List.mem_filterMap.2 ⟨i, hi, by
      have : cls (res P (opAt ops i) (H i)) = .new j := hj
      rw [this]⟩
    have := List.all_eq_true.1 h6 j hm
    revert this
    cases gt S j <;> simp
end
end
section
open Go
section
variable {P : Program} {N : Nat}
theorem E_sound (hm : P.follows .mixedOrders = true) (H : Hints) : ∀ (c : Code) {key : Nat} {T : Tm} {S : St} {K : Exit → Tm → St → Prop} {a : Act} {I : Imm} {w : World} {ds : List Deferred} {Q : Exit → Act → World → Prop},
    E P N H c key T S K → Rel N T a → a.defers = ds → Sat I S w → (∀ e a' w', Aft N I w ds (K e) a' w' → Q e a' w') → c.wp P Q a w := by
  intro c
  induction c with
  | skip =>
    intro key T S K a I w ds Q h hrel hd hs hQ
    exact wp_skip (hQ _ _ _ ⟨T, S, I, hrel, hd, Imm.le_refl I, hs, Env.refl w, h⟩)
  | exit id =>
    intro key T S K a I w ds Q h hrel hd hs hQ
    exact wp_exit (hQ _ _ _ ⟨T, S, I, hrel, hd, Imm.le_refl I, hs, Env.refl w, h⟩)
  | ret =>
    intro key T S K a I w ds Q h hrel hd hs hQ
    exact wp_ret (hQ _ _ _ ⟨T, S, I, hrel, hd, Imm.le_refl I, hs, Env.refl w, h⟩)
  | seq x y ihx ihy =>
    intro key T S K a I w ds Q h hrel hd hs hQ
    simp only [E] at h
    refine wp_seq ?_
    split at h
    · refine ihx h hrel hd hs λe a' w' haft => ?_
      cases e with
      | normal =>
        obtain ⟨T', S', J, h1, h2, h3, h4, h5, h6⟩ := haft
        exact ihy h6 h1 h2 h4 λe a w h => hQ e a w (h.from h3 h5)
      | _ => exact hQ _ _ _ haft
    · rename_i V hV
      have go : ∀ Pr : V.X → Prop, (E P N H x key T S λe T S => match e with | .normal => ∃ x, Pr x ∧ Eqs T (V.lv x) ∧ Ent S (ofL (V.st x)) | e => K e T S) →
          (∀ x js, Pr x → E P N H y key (over js (V.lv x)) (ofL (V.st x)) K) → Code.wp P x (Exit.then (Code.wp P y Q) Q) a w := by
        intro Pr hx hy
        refine ihx hx hrel hd hs λe a' w' haft => ?_
        cases e with
        | normal =>
          obtain ⟨T', S', J, h1, h2, h3, h4, h5, x, hp, he, hent⟩ := haft
          obtain ⟨J', hle, hs'⟩ := hent.h J w' h4
          exact ihy (hy x T'.at hp) (over_rel h1 he) h2 hs' λe a w h => hQ e a w (h.from (Imm.le_trans h3 hle) h5)
        | _ => exact hQ _ _ _ haft
      split at h
      · exact go _ h.1 h.2
      · obtain ⟨_, hx, hy⟩ := h
        exact go _ hx hy
  | cond x c1 c2 ih1 ih2 =>
    intro key T S K a I w ds Q h hrel hd hs hQ
    simp only [E] at h
    split at h
    · rename_i t ht
      have hc : a.eval x = .bool t := by rw [hrel.eval]; exact ht
      refine wp_cond hc ?_
      rcases Br.cases h with ⟨rfl, hk⟩ | ⟨rfl, hk⟩
      · exact ih1 hk hrel hd hs hQ
      · exact ih2 hk hrel hd hs hQ
    · exact h.elim
  | block id c ih =>
    intro key T S K a I w ds Q h hrel hd hs hQ
    simp only [E] at h
    refine wp_block (ih h hrel hd hs λe a' w' haft => ?_)
    cases e with
    | exit i =>
      simp only [Exit.inBlock]
      by_cases hi : i = id
      · subst hi
        simp only [if_true]
        refine hQ _ _ _ (haft.mono λT S h => ?_)
        simpa using h
      · simp only [hi, if_false]
        refine hQ _ _ _ (haft.mono λT S h => ?_)
        simpa [beq_ne hi] using h
    | _ => exact hQ _ _ _ haft
  | scope c ih =>
    intro key T S K a I w ds Q h hrel hd hs hQ
    simp only [E] at h
    refine wp_scope_straight (ih h hrel hd hs λe a' w' haft => ?_)
    cases e with
    | goto l =>
      obtain ⟨_, _, _, _, _, _, _, _, h6⟩ := haft
      exact h6.elim
    | _ => exact hQ _ _ _ haft
  | loop c ih =>
    intro key T S K a I w ds Q h hrel hd hs hQ
    simp only [E] at h
    split at h
    · exact h.elim
    · rename_i V hV
      have go : ∀ Pr : V.X → Prop, (∃ x, Pr x ∧ Eqs T (V.lv x) ∧ Ent S (ofL (V.st x))) → (∀ x js, Pr x → E P N H c key (over js (V.lv x)) (ofL (V.st x)) λe T S => match e with
          | .normal => ∃ y, Pr y ∧ Eqs T (V.lv y) ∧ Ent S (ofL (V.st y)) ∧ V.mu y < V.mu x
          | e => K e T S) → Code.wp P (.loop c) Q a w := by
        rintro Pr ⟨x0, hp0, he0, hent0⟩ hround
        obtain ⟨J0, hle0, hs0⟩ := hent0.h I w hs
        refine wp_loop_ghost (λn a' w' => ∃ x js J, V.mu x = n ∧ Pr x ∧ Rel N (over js (V.lv x)) a' ∧ a'.defers = ds ∧ Imm.le I J ∧ Sat J (ofL (V.st x)) w' ∧ Env w w') (V.mu x0)
          ⟨x0, T.at, J0, rfl, hp0, over_rel hrel he0, hd, hle0, hs0, Env.refl w⟩ ?_
        rintro n a' w' ⟨x, js, J, rfl, hp, hrel', hd', hle, hs', henv⟩
        refine ih (hround x js hp) hrel' hd' hs' λe a2 w2 haft => ?_
        cases e with
        | normal =>
          obtain ⟨T', S', J', h1, h2, h3, h4, h5, y, hpy, hey, henty, hmu⟩ := haft
          obtain ⟨J2, hle2, hs2⟩ := henty.h J' w2 h4
          exact ⟨V.mu y, hmu, y, T'.at, J2, rfl, hpy, over_rel h1 hey, h2, Imm.le_trans hle (Imm.le_trans h3 hle2), hs2, henv.trans h5⟩
        | _ => exact hQ _ _ _ (haft.from hle henv)
      split at h
      · exact go _ h.1 h.2
      · obtain ⟨_, hx, hy⟩ := h
        exact go _ hx hy
  | region id ops draw =>
    intro key T S K a I w ds Q h hrel hd hs hQ
    simp only [E] at h
    split at h
    · exact wp_region (rg_sound _ h hrel hd hs (λa w h => hQ _ a w h) (λch a w h => hQ _ a w h))
    · exact wp_region_any hm (draw_sound h.1 h.2 hrel hd (hs.heap (w' := { w with drawn := w.drawn + 1 }) rfl) (λa w h => hQ _ a w (h.from (Imm.le_refl _) ⟨rfl, rfl⟩)) (λch a w h => hQ _ a w (h.from (Imm.le_refl _) ⟨rfl, rfl⟩)))
  | _ => intro key T S K a I w ds Q h; exact h.elim
theorem results_eq {fn : Func} {T : Tm} {a : Act} (h : Rel N T a) : results fn a.tmps = resSem fn T := by
  unfold results resSem
  congr 1
  congr 1
  funext r
  cases r with
  | tmp t => simp only [h.get]
  | cell x t => simp only [h.get]
theorem body_sound (hm : P.follows .mixedOrders = true) {f : FuncId} {fn : Func} {c : Code} {H : Hints} {rh : List LH} {args : List Value} {S : St} {R : Ending → St → Prop} {I : Imm} {w : World}
    (hf : P.funcs[f]? = some fn) (hb : fn.body = some c) (hN : fn.ntmps = N) (hl : args.length ≤ N) (h : Body P N fn H rh c (ent args) S R) (hs : Sat I S w) :
    Calls P f ⟨args⟩ w λe w' => ∃ J S', Imm.le I J ∧ Sat J S' w' ∧ Env w w' ∧ R e S' := by
  refine calls_of_wp hf hb ?_
  rw [hN]
  refine E_sound hm H c h (rel_ent args hl) rfl hs λe a w' haft => ?_
  obtain ⟨T, S', J, h1, h2, h3, h4, h5, h6⟩ := haft
  have fin : rd P S' (resSem fn T) rh (λv => R (.returned v) S') → a.defers = [] ∧ ∃ v, (results fn a.tmps).run P w' = .ok v w' ∧ ∃ J S', Imm.le I J ∧ Sat J S' w' ∧ Env w w' ∧ R (.returned v) S' := λh6 => by
    obtain ⟨v, hrun, hR⟩ := rd_sound h4 _ _ _ h6
    exact ⟨h2, v, by rw [results_eq h1]; exact hrun, J, S', h3, h4, h5, hR⟩
  cases e with
  | normal => exact fin h6
  | ret => exact fin h6
  | panic ch => exact ⟨h2, J, S', h3, h4, h5, h6⟩
  | _ => exact h6.elim
theorem fnOk (hm : P.follows .mixedOrders = true) {f : FuncId} {fn : Func} {c : Code} {C : Con} (hf : P.funcs[f]? = some fn) (hb : fn.body = some c) (hN : fn.ntmps = N) (hl : ∀ x, (C.args x).length ≤ N)
    (H : C.X → Atom → Hints) (rh : List LH)
    (h : ∀ x F, C.cond x → C.rdc x F → Body P N fn (H x F) rh c (ent (C.args x)) (ofL (C.pre x ++ [F])) (Done C x F)) : FnOk P f C := by
  refine ⟨λx F I w hc hr hs => ?_⟩
  refine (body_sound hm hf hb hN (hl x) (h x F hc hr) hs).mono ?_
  rintro e w' ⟨J, S', hle, hs', henv, ⟨y, hrel, rfl, hent⟩⟩
  obtain ⟨J', hle', hs2⟩ := hent.h J w' hs'
  exact ⟨y, J', hrel, rfl, Imm.le_trans hle hle', hs2, henv⟩
theorem FnOk.conseq {f : FuncId} {C C' : Con} (h' : FnOk P f C')
    (h : ∀ x F I w, C.cond x → C.rdc x F → Sat I (ofL (C.pre x ++ [F])) w → ∃ x' J, Imm.le I J ∧ C'.cond x' ∧ C'.rdc x' F ∧ C.args x = C'.args x' ∧ Sat J (ofL (C'.pre x' ++ [F])) w ∧
      ∀ y', C'.rel x' y' → ∃ y, C.rel x y ∧ C'.val x' y' = C.val x y ∧ Ent (ofL (C'.post x' y' ++ [F])) (ofL (C.post x y ++ [F]))) : FnOk P f C := by
  refine ⟨λx F I w hc hr hs => ?_⟩
  obtain ⟨x', J, hle, hc', hr', ha, hs', hy⟩ := h x F I w hc hr hs
  rw [ha]
  refine (h'.h x' F J w hc' hr' hs').mono ?_
  rintro e w' ⟨y', J', hrel, rfl, hle', hsat, henv⟩
  obtain ⟨y, h1, h2, h3⟩ := hy y' hrel
  obtain ⟨J2, hle2, hs2⟩ := h3.h J' w' hsat
  exact ⟨y, J2, h1, h2, Imm.le_trans hle (Imm.le_trans hle' hle2), hs2, henv⟩
end
end
section
open Go
theorem Ent.refl (S : St) : Ent S S := ⟨λI _ h => ⟨I, Imm.le_refl I, h⟩⟩
theorem Ent.trans {S S' S'' : St} (h : Ent S S') (h' : Ent S' S'') : Ent S S'' := ⟨λI w hs => by
  obtain ⟨J, hle, hs'⟩ := h.h I w hs
  obtain ⟨K, hle', hs''⟩ := h'.h J w hs'
  exact ⟨K, Imm.le_trans hle hle', hs''⟩⟩
theorem Sat.pick {I : Imm} {w : World} {S S' : St} (idx : List Nat) (hn : nodupB idx = true) (e : ofL (idx.map (gt S)) = S') (h : Sat I S w) : Sat I S' w := by
  subst e
  have hnd := nodupB_spec hn
  obtain ⟨f, h1, h2, h3⟩ := h.own
  refine ⟨⟨λi b => ∃ h : i < idx.length, f idx[i] b, λi => ?_, λi i' b hb hb' => ?_, λi b hb => ?_⟩, h.imm⟩
  · rw [gt_ofL, fo_gd]
    by_cases hi : i < idx.length
    · simp only [fo_gm, fo_ge hi, Option.map_some, Option.getD_some]
      have e : (λb => ∃ h : i < idx.length, f idx[i] b) = f idx[i] := by funext b; simp [hi]
      show Atom.holds I (hp w) (λb => ∃ h : i < idx.length, f idx[i] b) _
      rw [e]; exact h1 _
    · simp only [fo_gm, fo_gn (Nat.le_of_not_lt hi), Option.map_none, Option.getD_none]
      trivial
  · obtain ⟨hi, hb⟩ := hb
    obtain ⟨hi', hb'⟩ := hb'
    have := h2 _ _ _ hb hb'
    have hpw := List.pairwise_iff_getElem.1 hnd
    rcases Nat.lt_trichotomy i i' with e | e | e
    · exact absurd this (hpw i i' hi hi' e)
    · exact e
    · exact absurd this.symm (hpw i' i hi' hi e)
  · obtain ⟨hi, hb⟩ := hb
    exact h3 _ _ hb
theorem Ent.pick {S S' : St} (idx : List Nat) (hn : nodupB idx = true) (e : ofL (idx.map (gt S)) = S') : Ent S S' := ⟨λI _ h => ⟨I, Imm.le_refl I, h.pick idx hn e⟩⟩
theorem br_intro {t : Bool} {A B : Prop} (h1 : t = true → A) (h2 : t = false → B) : Br t A B := by
  cases t
  · exact h2 rfl
  · exact h1 rfl
@[simp] theorem br_true (A B : Prop) : Br true A B = A := rfl
@[simp] theorem br_false (A B : Prop) : Br false A B = B := rfl
theorem br_decide {p : Prop} [Decidable p] {A B : Prop} (h1 : p → A) (h2 : ¬ p → B) : Br (decide p) A B := br_intro (λe => h1 (fo_od1 e)) (λe => h2 (fo_od0 e))
@[simp] theorem same_refl (b o : Nat) : Same ⟨b, o, none⟩ b := ⟨rfl, rfl⟩
theorem cellOf_cells {h : Hp} {b : Nat} {vs : List Value} {t : TypeId} {fr : Nat × Nat} (hb : h b = some (.cells ⟨vs⟩ t fr)) (o : Nat) : cellOf h ⟨b, o, none⟩ = vs[o]? := by
  unfold cellOf
  simp [hb]
theorem Look.cells {b o : Nat} {vs : List Value} {t : TypeId} {v : Value} (h : vs[o]? = some v) : Look (.cells b vs t) ⟨b, o, none⟩ v := ⟨λI h' o' _ hA => by
  rw [cellOf_cells hA.2]; exact h⟩
theorem Look.rest {S : St} {touch : List Nat} {j : Nat} (hj : j ∉ touch) {a : Addr} {v : Value} (h : Look (gt S j) a v) : Look (.pred (rest S touch)) a v := ⟨λI h' o hc hA => by
  obtain ⟨f, h1, _, _⟩ := hA
  have := h1 j
  rw [gt_clr] at this
  simp only [hj, if_false] at this
  exact h.h I h' _ hc this⟩
theorem Look.sub {A B : Atom} (hs : Sub A B) {a : Addr} {v : Value} (h : Look A a v) : Look B a v := ⟨λI h' o hc hB => by
  obtain ⟨o', hA⟩ := hs I h' o hB
  exact h.h I h' o' hc hA⟩
def Seg (A : Atom) (a : Addr) (ys : List Value) : Prop := ∀ j u, ys[j]? = some u → Look A (a.add j) u
theorem Seg.sub {A B : Atom} (hs : Sub A B) {a : Addr} {ys : List Value} (h : Seg A a ys) : Seg B a ys := λj u hj => (h j u hj).sub hs
theorem addr_add (b o j : Nat) : (⟨b, o, none⟩ : Addr).add j = ⟨b, o + j, none⟩ := by
  unfold Addr.add
  split
  · rename_i e; subst e; rfl
  · rfl
theorem Seg.rest {S : St} {touch : List Nat} {j : Nat} (hj : j ∉ touch) {a : Addr} {ys : List Value} (h : Seg (gt S j) a ys) : Seg (.pred (rest S touch)) a ys := λi u hi => (h i u hi).rest hj
theorem Seg.cells {b o : Nat} {vs ys : List Value} {t : TypeId} (h : ∀ j u, ys[j]? = some u → vs[o + j]? = some u) : Seg (.cells b vs t) ⟨b, o, none⟩ ys := λj u hj => by
  rw [addr_add]; exact Look.cells (h j u hj)
structure Row where
  a : Option Addr
  n : Nat
  cap : Nat
  A : Atom
def Row.v (r : Row) : Value := .slice r.a r.n r.cap
inductive IsRow (e : TypeId) (k : Nat) (cs : List Value) : Row → Prop
  | nil (h : cs = []) : IsRow e k cs ⟨none, 0, 0, .emp⟩
  | blk (b n cap : Nat) (sp : List Value) (hl : cs.length = n * k) (hs : (cs ++ sp).length = cap * k) (hn : n ≤ cap) : IsRow e k cs ⟨some ⟨b, 0, none⟩, n, cap, .cells b (cs ++ sp) e⟩
theorem IsRow.len {e : TypeId} {k : Nat} {cs : List Value} {r : Row} (h : IsRow e k cs r) : cs.length = r.n * k := by
  cases h with
  | nil h => subst h; simp
  | blk b n cap sp hl hs hn => exact hl
theorem IsRow.le {e : TypeId} {k : Nat} {cs : List Value} {r : Row} (h : IsRow e k cs r) : r.n ≤ r.cap := by
  cases h with
  | nil h => exact fo_nr _
  | blk b n cap sp hl hs hn => exact hn
def nilRow : Row := ⟨none, 0, 0, .emp⟩
section
variable {P : Program}
theorem Sat.setRow {I : Imm} {S : St} {w : World} (h : Sat I S w) {j b : Nat} {vs vs' : List Value} {t : TypeId} (hj : gt S j = .cells b vs t) : Sat I (updS S j (.cells b vs' t)) (w.setRow b ⟨vs'⟩) := by
  have hb := h.cells hj
  refine h.write (b := b) (λo ho => by rw [hj] at ho; exact ho.1) (λc hc => setRow_other w b c _ hc) (by simp [World.setRow]) (λo ho => ?_)
  rw [hj] at ho
  exact ⟨ho.1, setRow_heap w b _ _ t _ hb⟩
theorem Sat.alloc {I : Imm} {S : St} {w : World} (h : Sat I S w) (j : Nat) (cs : Array Value) (t : TypeId) : Sat I (updS S j (.cells w.heap.size cs.toList t)) (w.drew.alloc (.cells cs t)) := by
  have := (h.heap (w' := w.drew) rfl).new j (.cells cs t)
  exact this
theorem Seg.cell {I : Imm} {S : St} {w : World} (h : Sat I S w) {j : Nat} {a : Addr} {ys : List Value} (hs : Seg (gt S j) a ys) : ∀ i u, ys[i]? = some u → w.cell? (a.add i) = some u := λi u hi => h.look (hs i u hi)
theorem upd0 (A B F : Atom) : updS (ofL [A, F]) 0 B = ofL [B, F] := rfl
structure ApX where
  r : Row
  cs : List Value
  a : Option Addr
  m : Nat
  c : Nat
  ys : List Value
abbrev apC (e : TypeId) (k bytes : Nat) : Con where
  X := ApX
  Y := Row
  args x := [.slice x.r.a x.r.n x.r.cap, .slice x.a x.m x.c]
  pre x := [x.r.A]
  cond x := IsRow e k x.cs x.r ∧ x.ys.length = x.m * k ∧ (∀ u ∈ x.ys, u.oneCell' = true) ∧ (x.r.n + x.m) * bytes ≤ 140737488355328 ∧ x.r.n + x.m ≤ 9223372036854775807 ∧ (x.a = none → x.m = 0 ∧ x.c = 0)
  rdc x F := ∀ a, x.a = some a → Seg F a x.ys
  rel x r := IsRow e k (x.cs ++ x.ys) r ∧ r.n = x.r.n + x.m ∧ (x.m = 0 → r = x.r)
  val _ r := .returned r.v
  post _ r := [r.A]
  rmono _ _ _ hs h a ha := (h a ha).sub hs
theorem append_ok {o : Oper} {s x : Operand} {t e : TypeId} {inf : TypeInfo} {z : Value} (k bytes : Nat) (ho : o.op = .call { callee := .builtin .append, args := #[s, x], argTypes := #[t, t] })
    (ht : P.underlying t = some (.slice e)) (hi : P.info? e = some inf) (hz : inf.zero = some z) (hk : inf.size = k) (hb : inf.bytes = bytes) (hzk : z.cells.size = k) (hk0 : 0 < k) : OpOk P o (apC e k bytes) := by
  refine ⟨λx F I w ρ ha hc hr hs => ?_⟩
  obtain ⟨r, cs, a, m, c, ys⟩ := x
  obtain ⟨hrow, hyl, hy1, hby, h63, hnil⟩ := hc
  dsimp only at hrow hyl hy1 hby h63 hnil
  simp only [ho, Op.operands, Call.operands, apC] at ha
  have ha2 : ρ s = .slice r.a r.n r.cap ∧ ρ x = .slice a m c := by simpa using ha
  obtain ⟨hs1, hx1⟩ := ha2
  have hex : ∀ w', (execOp ρ o).run P w' = ((Builtin.append_ #[t, t] o.type #[.slice r.a r.n r.cap, .slice a m c]).run P w').andThen λv w2 => .ok (.value v) w2 := by
    intro w'
    simp [execOp, ho, resolve, invoke, builtin, hs1, hx1]
  subst hk
  subst hb
  
  by_cases hm : m = 0
  · subst hm
    have hy : ys = [] := List.eq_nil_of_length_eq_zero (by simpa using hyl)
    subst hy
    refine ⟨r, I, w, r.v, ⟨by simpa using hrow, rfl, λ_ => rfl⟩, ?_, rfl, Imm.le_refl I, hs, Env.refl w⟩
    have hle := hrow.le
    rw [hex]
    cases hrow <;> cases a <;> simp [Builtin.append_, run_underlying ht, sizeOf, typeInfo, hi, Builtin.lenOf, Builtin.firstCells, loadCells, loadCellsFrom, storeCells, hle, Row.v]
  obtain ⟨ad, rfl⟩ : ∃ ad, a = some ad := by
    cases a with
    | none => exact absurd (hnil rfl).1 hm
    | some ad => exact ⟨ad, rfl⟩
  have hseg : Seg F ad ys := hr ad rfl
  have hcell : ∀ i u, ys[i]? = some u → w.cell? (ad.add i) = some u := Seg.cell hs (j := 1) (show Seg (gt (ofL [r.A, F]) 1) ad ys from hseg)
  dsimp only [apC, List.cons_append, List.nil_append] at hs
  clear hr ha
  cases hrow with
  | nil h =>
    subst h
    have hrun := run_append_nil (P := P) w t o.type e inf z ht hi hz ad m c ys hyl hcell (by omega) (by dsimp only at h63; omega) (by dsimp only at hby; simp only [fo_za] at hby; omega)
    refine ⟨⟨some ⟨w.heap.size, 0, none⟩, m, grownCap w m 0 e, .cells w.heap.size (ys ++ (Builtin.zeroCells z.cells (grownCap w m 0 e - m)).toList) e⟩, I, w.drew.alloc (.cells (ys.toArray ++ Builtin.zeroCells z.cells (grownCap w m 0 e - m)) e), _, ⟨.blk _ _ _ _ ?_ ?_ (grownCap_ge w m 0 e), ?_, ?_⟩, ?_, rfl, Imm.le_refl I, ?_, ⟨rfl, rfl⟩⟩
    · simpa using hyl
    · have := grownCap_ge w m 0 e
      simp only [List.nil_append, fo_la, Array.length_toList, size_zeroCells, hzk, hyl, ← Nat.add_mul]
      congr 1
      omega
    · simp
    · intro e; exact absurd e hm
    · left; rw [hex, hrun]; rfl
    · have := hs.alloc 0 (ys.toArray ++ Builtin.zeroCells z.cells (grownCap w m 0 e - m)) e
      simpa [apC, upd0] using this
  | blk b n cap sp hl hs2 hn =>
    have hblk : w.heap[b]? = some (.cells ⟨cs ++ sp⟩ e (0, 0)) := hs.cells (j := 0) rfl
    by_cases hroom : n + m ≤ cap
    · have hfit : n * inf.size + ys.length ≤ (⟨cs ++ sp⟩ : Array Value).size := by
        show n * inf.size + ys.length ≤ (cs ++ sp).length
        rw [hyl, hs2, ← Nat.add_mul]; exact Nat.mul_le_mul_right _ hroom
      have hrun := run_append_room (P := P) w t o.type e inf ht hi b n cap ⟨cs ++ sp⟩ hblk ad m c ys hyl hcell hy1 hroom hfit
      have htake : (cs ++ sp).take (n * inf.size) = cs := by rw [← hl]; exact List.take_left
      have hlen : (cs ++ ys ++ (cs ++ sp).drop (n * inf.size + ys.length)).length = cap * inf.size := by
        simp only [fo_la, List.length_drop] at hfit hs2 ⊢
        rw [hl] at hs2 ⊢
        have : n * inf.size + ys.length ≤ cap * inf.size := by rw [hyl, ← Nat.add_mul]; exact Nat.mul_le_mul_right _ hroom
        omega
      refine ⟨⟨some ⟨b, 0, none⟩, n + m, cap, .cells b (cs ++ ys ++ (cs ++ sp).drop (n * inf.size + ys.length)) e⟩, I, w.setRow b ⟨cs ++ ys ++ (cs ++ sp).drop (n * inf.size + ys.length)⟩, _, ⟨.blk _ _ _ _ ?_ hlen hroom, rfl, λe => absurd e hm⟩, ?_, rfl, Imm.le_refl I, ?_, ⟨rfl, rfl⟩⟩
      · rw [fo_la, hl, hyl, Nat.add_mul]
      · left; rw [hex, hrun]; simp only [htake]; rfl
      · have := hs.setRow (j := 0) (b := b) (vs := cs ++ sp) (t := e) (vs' := cs ++ ys ++ (cs ++ sp).drop (n * inf.size + ys.length)) rfl
        simpa [apC, upd0, htake] using this
    · have holds : ∀ j v, cs[j]? = some v → w.cell? ((⟨b, 0, none⟩ : Addr).add j) = some v := by
        intro j v hj
        have hlt := (fo_gs.1 hj).1
        rw [addr_add, cell_cells (b := b) ⟨rfl, rfl⟩ hblk]
        simp only [fo_za]
        rw [fo_gl hlt]; exact hj
      have hrun := run_append_grow (P := P) w t o.type e inf z ht hi hz ⟨b, 0, none⟩ n cap cs hl holds ad m c ys hyl hcell (by omega) (by dsimp only at h63; omega) (growslice_fits (by omega) hby)
      refine ⟨⟨some ⟨w.heap.size, 0, none⟩, n + m, grownCap w (n + m) cap e, .cells w.heap.size (cs ++ ys ++ (Builtin.zeroCells z.cells (grownCap w (n + m) cap e - (n + m))).toList) e⟩, I, w.drew.alloc (.cells (cs.toArray ++ ys.toArray ++ Builtin.zeroCells z.cells (grownCap w (n + m) cap e - (n + m))) e), _, ⟨.blk _ _ _ _ ?_ ?_ (grownCap_ge w (n + m) cap e), rfl, λe => absurd e hm⟩, ?_, rfl, Imm.le_refl I, ?_, ⟨rfl, rfl⟩⟩
      · rw [fo_la, hl, hyl, Nat.add_mul]
      · have := grownCap_ge w (n + m) cap e
        simp only [fo_la, hl, hyl, Array.length_toList, size_zeroCells, hzk, ← Nat.add_mul]
        congr 1
        omega
      · left; rw [hex, hrun]; rfl
      · have := hs.alloc 0 (cs.toArray ++ ys.toArray ++ Builtin.zeroCells z.cells (grownCap w (n + m) cap e - (n + m))) e
        simpa [apC, upd0] using this
end
end
section
open Go
def zeros (z : List Value) (n : Nat) : List Value := (List.replicate n z).flatten
theorem zeros_length (z : List Value) (n : Nat) : (zeros z n).length = n * z.length := by unfold zeros; simp
theorem zeros_succ (z : List Value) (n : Nat) : zeros z (n + 1) = z ++ zeros z n := by unfold zeros; simp [List.replicate_succ]
theorem zeros_get (z : List Value) (hz : z ≠ []) : ∀ (n i : Nat), i < n * z.length → (zeros z n)[i]? = z[i % z.length]? := by
  have hp : 0 < z.length := List.length_pos_iff.2 hz
  intro n
  induction n with
  | zero => intro i h; omega
  | succ n ih =>
    intro i h
    rw [zeros_succ]
    by_cases hi : i < z.length
    · rw [fo_gl hi, Nat.mod_eq_of_lt hi]
    · rw [fo_gr2 (by omega), ih _ (by rw [Nat.succ_mul] at h; omega)]
      have : i % z.length = (i - z.length) % z.length := Nat.mod_eq_sub_mod (by omega)
      rw [this]
theorem zeroCells_list (z : Array Value) (n : Nat) (hz : z.size ≠ 0) : (Builtin.zeroCells z n).toList = zeros z.toList n := by
  have hz' : z.toList ≠ [] := λe => hz (by rw [← Array.length_toList, e]; rfl)
  refine List.ext_getElem? λi => ?_
  have hlen : (Builtin.zeroCells z n).toList.length = n * z.size := by rw [Array.length_toList, size_zeroCells]
  by_cases hi : i < n * z.size
  · rw [zeros_get _ hz' n i (by simpa using hi)]
    have hm : i % z.size < z.size := Nat.mod_lt _ (by omega)
    simp [Builtin.zeroCells, hi, hm, getElem!_pos]
  · rw [fo_gn (by omega), fo_gn (by rw [zeros_length]; simp; omega)]
section
variable {P : Program}
structure MkX where
  n : Int
  c : Int
abbrev mkC (e : TypeId) (z : List Value) (bytes : Nat) : Con where
  X := MkX
  Y := Nat
  args x := [.int .i64 x.n, .int .i64 x.c]
  pre _ := []
  cond x := 0 ≤ x.n ∧ x.n ≤ x.c ∧ x.c * bytes ≤ 281474976710656 ∧ x.c ≤ 9223372036854775807
  rdc _ _ := True
  rel _ _ := True
  val x b := .returned (.slice (some ⟨b, 0, none⟩) x.n.toNat x.c.toNat)
  post x b := [.cells b (zeros z x.c.toNat) e]
theorem make_ok {o : Oper} {l c : Operand} {t e : TypeId} {inf : TypeInfo} {zv : Value} (z : List Value) (bytes : Nat) (ho : o.op = .makeSlice t l c)
    (ht : P.underlying t = some (.slice e)) (hi : P.info? e = some inf) (hz : inf.zero = some zv) (hzc : zv.cells = ⟨z⟩) (hk : inf.size = z.length) (hk0 : z ≠ []) (hb : inf.bytes = bytes) : OpOk P o (mkC e z bytes) := by
  refine ⟨λx F I w ρ ha hc hr hs => ?_⟩
  obtain ⟨n, c'⟩ := x
  obtain ⟨h0, hnc, hby, h63⟩ := hc
  dsimp only at h0 hnc hby h63
  simp only [ho, Op.operands, mkC] at ha
  have ha2 : ρ l = .int .i64 n ∧ ρ c = .int .i64 c' := by simpa using ha
  obtain ⟨hl1, hc1⟩ := ha2
  subst hb
  have hzl : zv.cells.size ≠ 0 := by rw [hzc]; simpa using hk0
  have hcells : madeCells zv.cells (c'.toNat * inf.size) = Builtin.zeroCells zv.cells c'.toNat := by
    have : zv.cells.size = inf.size := by rw [hzc, hk]; rfl
    unfold Builtin.zeroCells madeCells
    rw [this]
  have hrun := run_make (P := P) w t e inf zv ht hi hz .i64 .i64 n c' h0 hnc (by rw [Int.mul_comm]; exact hby) h63
  refine ⟨w.heap.size, I, w.alloc (.cells (Builtin.zeroCells zv.cells c'.toNat) e), _, fo_tv, ?_, rfl, Imm.le_refl I, ?_, ⟨rfl, rfl⟩⟩
  · rw [hcells] at hrun
    simp [execOp, ho, hl1, hc1, hrun, Sem.run]
  · have := (hs.new 1 (.cells (Builtin.zeroCells zv.cells c'.toNat) e))
    have e1 : (Builtin.zeroCells zv.cells c'.toNat).toList = zeros z c'.toNat := by rw [zeroCells_list _ _ hzl, hzc]
    have h2 : Sat I [(0, F), (1, .cells w.heap.size (zeros z c'.toNat) e)] (w.alloc (.cells (Builtin.zeroCells zv.cells c'.toNat) e)) := by
      rw [← e1]; exact this
    exact Sat.pick [1, 0] rfl rfl h2
structure BlkY where
  b : Nat
  cap : Nat
  sp : List Value
theorem OpOk.conseq {o : Oper} {C C' : Con} (h' : OpOk P o C')
    (h : ∀ x F, C.cond x → C.rdc x F → ∃ x', C'.cond x' ∧ C'.rdc x' F ∧ C.args x = C'.args x' ∧ C.pre x = C'.pre x' ∧
      ∀ y', C'.rel x' y' → ∃ y, C.rel x y ∧ C'.val x' y' = C.val x y ∧ C'.post x' y' = C.post x y) : OpOk P o C := by
  refine ⟨λx F I w ρ ha hc hr hs => ?_⟩
  obtain ⟨x', hc', hr', ea, ep, hy⟩ := h x F hc hr
  rw [ea] at ha
  rw [ep] at hs
  obtain ⟨y', J, w', v, hrel, hrun, hv, hle, hs', he⟩ := h'.h x' F I w ρ ha hc' hr' hs
  obtain ⟨y, h1, h2, h3⟩ := hy y' hrel
  exact ⟨y, J, w', v, h1, hrun, by rw [← h2]; exact hv, hle, by rw [← h3]; exact hs', he⟩
abbrev apB (e : TypeId) (k bytes : Nat) : Con where
  X := ApX
  Y := BlkY
  args x := [.slice x.r.a x.r.n x.r.cap, .slice x.a x.m x.c]
  pre x := [x.r.A]
  cond x := IsRow e k x.cs x.r ∧ x.ys.length = x.m * k ∧ (∀ u ∈ x.ys, u.oneCell' = true) ∧ (x.r.n + x.m) * bytes ≤ 140737488355328 ∧ x.r.n + x.m ≤ 9223372036854775807 ∧ 0 < x.m ∧ (x.a = none → x.m = 0)
  rdc x F := ∀ a, x.a = some a → Seg F a x.ys
  rel x y := (x.cs ++ x.ys ++ y.sp).length = y.cap * k ∧ x.r.n + x.m ≤ y.cap
  val x y := .returned (.slice (some ⟨y.b, 0, none⟩) (x.r.n + x.m) y.cap)
  post x y := [.cells y.b (x.cs ++ x.ys ++ y.sp) e]
  rmono _ _ _ hs h a ha := (h a ha).sub hs
theorem appendB_ok {o : Oper} {e : TypeId} {k bytes : Nat} (h : OpOk P o (apC e k bytes)) : OpOk P o (apB e k bytes) := by
  refine h.conseq λx F hc hr => ⟨x, ⟨hc.1, hc.2.1, hc.2.2.1, hc.2.2.2.1, hc.2.2.2.2.1, λe => absurd (hc.2.2.2.2.2.2 e) (by have := hc.2.2.2.2.2.1; omega)⟩, hr, rfl, rfl, λr hrel => ?_⟩
  obtain ⟨hrow, hn, _⟩ := hrel
  have hm : 0 < x.m := hc.2.2.2.2.2.1
  cases hrow with
  | nil h => simp only at hn; omega
  | blk b n cap sp hl hs hle =>
    simp only at hn
    subst hn
    exact ⟨⟨b, cap, sp⟩, ⟨hs, hle⟩, rfl, rfl⟩
end
end
section
open Go
variable {P : Program}
structure IxQX where
  b : Nat
  o : Nat
  len : Nat
  cap : Nat
  n : Int
def ixQ (k : Nat) : QCon where
  X := IxQX
  args x := [.slice (some ⟨x.b, x.o, none⟩) x.len x.cap, .int .i64 x.n]
  cond x := 0 ≤ x.n ∧ x.n < x.len
  val x := .pointer (some ⟨x.b, x.o + x.n.toNat * k, none⟩)
theorem ixq_ok {o : Oper} {x i : Operand} {t e : TypeId} {inf : TypeInfo} (k : Nat) (ho : o.op = .indexAddr t x i) (ht : P.underlying t = some (.slice e)) (hi : P.info? e = some inf) (hk : inf.size = k) : QOpOk P o (ixQ k) := by
  refine ⟨λX w ρ ha hc => ?_⟩
  obtain ⟨b, off, len, cap, n⟩ := X
  obtain ⟨h0, h1⟩ := hc
  dsimp only at h0 h1
  simp only [ho, Op.operands, ixQ] at ha
  obtain ⟨hx, hn⟩ : ρ x = .slice (some ⟨b, off, none⟩) len cap ∧ ρ i = .int .i64 n := by simpa using ha
  have hsz : P.cellsOf e = inf.size := by unfold Program.cellsOf; simp [hi]
  subst hk
  simp [execOp, ho, hx, hn, Instr.indexAt, asIntOf, run_underlying ht, run_sizeOf w hi, hsz, h0, h1, addr_add, Sem.run, ixQ]
inductive IsSrc (k : Nat) (ys : List Value) : Option Addr → Nat → Prop
  | nil (h : ys = []) : IsSrc k ys none 0
  | blk (b o n : Nat) (h : ys.length = n * k) : IsSrc k ys (some ⟨b, o, none⟩) n
  | zero (a : Addr) (h : ys = []) : IsSrc k ys (some a) 0
def Srcd (F : Atom) (a : Option Addr) (ys : List Value) : Prop := ∀ ad, a = some ad → Seg F ad ys
theorem Srcd.sub {A B : Atom} {a : Option Addr} {ys : List Value} (hs : Sub A B) (h : Srcd A a ys) : Srcd B a ys := λad e => (h ad e).sub hs
theorem IsSrc.some {k n : Nat} {ys : List Value} {a : Option Addr} (h : IsSrc k ys a n) (hn : 0 < n) : ∃ b o, a = some ⟨b, o, none⟩ := by
  cases h with
  | nil _ => exact absurd hn (Nat.lt_irrefl 0)
  | blk b o n _ => exact ⟨b, o, rfl⟩
  | zero _ _ => exact absurd hn (Nat.lt_irrefl 0)
theorem IsSrc.len {k n : Nat} {ys : List Value} {a : Option Addr} (h : IsSrc k ys a n) : ys.length = n * k := by
  cases h with
  | nil h => subst h; simp
  | blk b o n h => exact h
  | zero _ h => subst h; simp
theorem IsRow.src {e : TypeId} {k : Nat} {cs : List Value} {r : Row} (h : IsRow e k cs r) : IsSrc k cs r.a r.n := by
  cases h with
  | nil h => exact .nil h
  | blk b n cap sp h1 h2 h3 => exact .blk b 0 n h1
theorem IsRow.srcd {e : TypeId} {k : Nat} {cs : List Value} {r : Row} (h : IsRow e k cs r) : Srcd r.A r.a cs := by
  cases h with
  | nil h => intro ad e; cases e
  | blk b n cap sp h1 h2 h3 =>
    intro ad e
    cases e
    refine Seg.cells λj u hj => ?_
    rw [fo_za, fo_gl]
    · exact hj
    · exact (fo_gs.1 hj).1
theorem Srcd.look {F : Atom} {b o j : Nat} {ys : List Value} {v : Value} (h : Srcd F (some ⟨b, o, none⟩) ys) (hj : ys[j]? = some v) : Look F ⟨b, o + j, none⟩ v := by
  have := h _ rfl j v hj
  rwa [addr_add] at this
end
end Go.Proofs.YtjdabjmjldiodaaGreatDoor
