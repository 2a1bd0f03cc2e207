/- The engine, part E: regions that draw their order: the evaluator's one order serves all. -/
import Derived.Test.YtmknmibmnidnoaaEngD
set_option linter.all false
namespace Go.Proofs.Ytmknmibmnidnoaa
open Go
section
variable {P : Program} {N : Nat}

/-! ## slots that do not meet -/
theorem tm_ext {T T' : Tm} (h : ∀ i, T.at i = T'.at i) : T = T' := funext h
theorem putT_self {T : Tm} {d : Nat} {v : Value} (e : T.at d = v) : putT N (some d) v T = T := by
  refine tm_ext fun i => ?_
  rw [putT_at]
  split
  · rename_i hh; rw [hh.2, e]
  · rfl
theorem putT_comm {x y : Option Tmp} (h : ∀ d, x = some d → y ≠ some d) (u v : Value) (T : Tm) : putT N x u (putT N y v T) = putT N y v (putT N x u T) := by
  cases x with
  | none => rfl
  | some d =>
    cases y with
    | none => rfl
    | some e =>
      have hne : d ≠ e := fun he => h d rfl (he ▸ rfl)
      refine tm_ext fun i => ?_
      simp only [putT_at]
      by_cases h1 : d < N ∧ i = d <;> by_cases h2 : e < N ∧ i = e
      · exact absurd (h1.2.symm.trans h2.2) hne
      · simp only [if_pos h1, if_neg h2]
      · simp only [if_neg h1, if_pos h2]
      · simp only [if_neg h1, if_neg h2]
theorem putT_off {x : Option Tmp} {t : Nat} (h : x ≠ some t) (v : Value) (T : Tm) : (putT N x v T).at t = T.at t := by
  cases x with
  | none => rfl
  | some d =>
    rw [putT_at]
    have : ¬ t = d := fun e => h (e ▸ rfl)
    simp [this]
/-- Two frames that agree in what an operation looks at. -/
def Agr (ops : Array Oper) (o : Oper) (T T' : Tm) : Prop := ∀ t, t ∈ o.looksAt ops → T.at t = T'.at t
theorem Agr.put {ops : Array Oper} {x y : Oper} (h : x.apart ops y = true) (v : Value) (T : Tm) : Agr ops y T (putT N x.dst v T) := by
  intro t ht
  exact (putT_off (fun e => (Oper.apart_spec h).1 t e ht) v T).symm
theorem Agr.put' {ops : Array Oper} {x y : Oper} (h : x.apart ops y = true) (v : Value) (T : Tm) : Agr ops x T (putT N y.dst v T) := by
  intro t ht
  exact (putT_off (fun e => (Oper.apart_spec h).2.2 t e ht) v T).symm
theorem Agr.symm {ops : Array Oper} {o : Oper} {T T' : Tm} (h : Agr ops o T T') : Agr ops o T' T := fun t ht => (h t ht).symm
theorem Agr.evs {ops : Array Oper} {o : Oper} {T T' : Tm} (h : Agr ops o T T') : ∀ x, x ∈ o.op.operands → ev T x = ev T' x := by
  intro x hx
  cases x with
  | tmp t =>
    refine h t ?_
    unfold Oper.looksAt
    refine List.mem_append_left _ (List.mem_filterMap.2 ⟨.tmp t, Array.mem_toList_iff.2 hx, rfl⟩)
  | const v => rfl
  | global g => rfl
  | func f => rfl
theorem notSel {o : Oper} (h : isSel o = false) : ∀ cs b, o.op ≠ .select cs b := by
  intro cs b e
  simp [isSel, e] at h

/-! ## guards -/
def gd (ops : Array Oper) (o : Oper) (T : Tm) : Option Bool :=
  match o.guard with
  | none => some true
  | some (j, want) => match (ops[j]?).bind (·.dst) with
    | none => none
    | some d => match T.at d with
      | .bool t => some (t == want)
      | _ => none
theorem gd_agr {ops : Array Oper} {o : Oper} {T T' : Tm} (h : Agr ops o T T') : gd ops o T = gd ops o T' := by
  unfold gd
  cases hg : o.guard with
  | none => rfl
  | some p =>
    obtain ⟨j, want⟩ := p
    simp only
    cases hd : (ops[j]?).bind (·.dst) with
    | none => rfl
    | some d =>
      have : T.at d = T'.at d := by
        refine h d ?_
        unfold Oper.looksAt
        refine List.mem_append_right _ ?_
        simp [hg, hd]
      simp only [this]
theorem opStep_gd {ops : Array Oper} {o : Oper} {h : OH} {T : Tm} {S : St} {k : Tm → St → Prop} {kp : List PanicEntry → Tm → St → Prop} :
    opStep P N ops o h T S k kp ↔ (match gd ops o T with | some true => opRun P N o h T S k kp | some false => k (putT N o.dst undef T) S | none => False) := by
  unfold opStep gd
  cases hg : o.guard with
  | none => exact Iff.rfl
  | some p =>
    obtain ⟨j, want⟩ := p
    simp only
    cases hd : (ops[j]?).bind (·.dst) with
    | none => exact Iff.rfl
    | some d =>
      simp only
      cases ht : T.at d with
      | bool t =>
        simp only
        cases t <;> cases want <;> simp [Br, putT_self ht]
      | _ => exact Iff.rfl

/-! ## a quiet operation in another state -/
theorem optI_congr {T T' : Tm} {x : Option Operand} {d : Int} (h : ∀ y, x = some y → ev T y = ev T' y) : optI T d x = optI T' d x := by
  cases x with
  | none => rfl
  | some y => simp only [optI, h y rfl]
theorem q_congr {o : Oper} {h : OH} {T T' : Tm} {S S' : St} {k : Value → Prop} (hsel : isSel o = false) (he : ∀ x, x ∈ o.op.operands → ev T x = ev T' x)
    (hS : ∀ j, j ∈ readsOf (cls h) → gt S j = gt S' j) (hr : qRun P o h T S k) : qRun P o h T' S' k := by
  have hex : execOp (ev T) o = execOp (ev T') o := execOp_congr o (notSel hsel) he
  have hmap : o.op.operands.toList.map (ev T) = o.op.operands.toList.map (ev T') := List.map_congr_left fun x hx => he x (Array.mem_toList_iff.1 hx)
  unfold qRun at *
  split at hr
  · rename_i hs
    rw [← hex]
    exact rd_congr _ _ (fun j hj => hS j (by simpa [cls, readsOf] using hj)) hr
  · simp only [hmap] at hr ⊢; exact hr
  · split at hr
    · rename_i c x y hop
      have hc := he c (by simp [hop, Op.operands])
      have hx := he x (by simp [hop, Op.operands])
      have hy := he y (by simp [hop, Op.operands])
      simp only [hop, ← hc, ← hx, ← hy]
      exact hr
    · exact hr.elim
  · simp only [ckV] at hr ⊢
    split at hr <;> first
      | exact hr.elim
      | (rename_i x y _ hop
         have hx := he x (by simp [hop, Op.operands])
         have hy := he y (by simp [hop, Op.operands])
         simp only [hop, ← hx, ← hy]
         exact hr)
      | (rename_i s d x hop
         have hx := he x (by simp [hop, Op.operands])
         simp only [hop, ← hx]
         exact hr)
  · simp only [ixV] at hr ⊢
    split at hr
    · rename_i t x i hop
      have hx := he x (by simp [hop, Op.operands])
      have hi := he i (by simp [hop, Op.operands])
      simp only [hop, ← hx, ← hi]
      exact hr
    · exact hr.elim
  · simp only [siV] at hr ⊢
    split at hr
    · rename_i t x i hop
      have hx := he x (by simp [hop, Op.operands])
      have hi := he i (by simp [hop, Op.operands])
      simp only [hop, ← hx, ← hi]
      exact hr
    · exact hr.elim
  · simp only [slV] at hr ⊢
    split at hr
    · rename_i t x lo hi hop
      have hx := he x (by simp [hop, Op.operands])
      have hlo : ∀ d, optI T d lo = optI T' d lo := fun d => optI_congr fun y hy => he y (by subst hy; simp [hop, Op.operands])
      have hhi : ∀ d, optI T d hi = optI T' d hi := fun d => optI_congr fun y hy => he y (by subst hy; simp [hop, Op.operands])
      simp only [hop, ← hx, ← hlo, ← hhi]
      exact hr
    · exact hr.elim
  · exact hr.elim

/-! ## any operation in a greater state -/
def Off (S S' : St) (ids : List Nat) : Prop := ∀ j, j ∉ ids → gt S' j = gt S j
theorem Off.refl (S : St) (ids : List Nat) : Off S S ids := fun _ _ => rfl
theorem Off.upd {S : St} {ids : List Nat} {j : Nat} (h : j ∈ ids) (A : Atom) : Off S (updS S j A) ids := by
  intro i hi
  rw [gt_upd]
  have : ¬ i = j := fun e => hi (e ▸ h)
  simp [this]
theorem Off.trans {S S1 S2 : St} {ids : List Nat} (h : Off S S1 ids) (h' : Off S1 S2 ids) : Off S S2 ids := fun j hj => (h' j hj).trans (h j hj)
theorem Off.mono {S S' : St} {a b : List Nat} (h : Off S S' a) (hab : ∀ j, j ∈ a → j ∈ b) : Off S S' b := fun j hj => h j fun hh => hj (hab j hh)
/-- A state made greater, out of sight of the numbers 'ids'. -/
structure Fr (φ : St → St) (ids : List Nat) : Prop where
  get : ∀ S j, j ∈ ids → gt (φ S) j = gt S j
  com : ∀ S j A, j ∈ ids → φ (updS S j A) = updS (φ S) j A
theorem Fr.id (ids : List Nat) : Fr (fun S => S) ids := ⟨fun _ _ _ => rfl, fun _ _ _ _ => rfl⟩
theorem Fr.upd {ids : List Nat} {j : Nat} (h : j ∉ ids) (A : Atom) : Fr (fun S => updS S j A) ids := by
  refine ⟨fun S i hi => ?_, fun S i B hi => ?_⟩
  · show gt (updS S j A) i = _
    rw [gt_upd]
    have : ¬ i = j := fun e => h (e ▸ hi)
    simp [this]
  · have : j ≠ i := fun e => h (e ▸ hi)
    exact ins_comm this A B S
theorem Fr.mono {φ : St → St} {a b : List Nat} (h : Fr φ b) (hab : ∀ j, j ∈ a → j ∈ b) : Fr φ a := ⟨fun S j hj => h.get S j (hab j hj), fun S j A hj => h.com S j A (hab j hj)⟩
theorem rd_step {α : Type} {φ : St → St} {S : St} {hs : List LH} {s : Sem α} {k k' : α → Prop} (hφ : Fr φ (ldIds hs)) (hr : rd P S s hs k) (hk : ∀ a, k a → k' a) : rd P (φ S) s hs k' :=
  rd_mono _ _ (rd_congr _ _ (fun j hj => (hφ.get S j hj).symm) hr) hk
theorem wr_step {α : Type} {φ : St → St} : ∀ (s : Sem α) (hs : List LH) {S : St} {k k' : α → St → Prop} {kp kp' : Value → St → Prop}, Fr φ (ldIds hs) → wr P s hs S k kp →
    (∀ a S', Off S S' (ldIds hs) → k a S' → k' a (φ S')) → (∀ v S', kp v S' → kp' v (φ S')) → wr P s hs (φ S) k' kp' := by
  intro s
  induction s with
  | pure a => intro hs S k k' kp kp' hφ h hk _; exact hk _ _ (Off.refl _ _) h
  | program f ih => intro hs S k k' kp kp' hφ h hk hp; exact ih P hs hφ h hk hp
  | mark m s ih => intro hs S k k' kp kp' hφ h hk hp; exact ih hs hφ h hk hp
  | halt x =>
    intro hs S k k' kp kp' hφ h hk hp
    cases x with
    | panic v => exact hp _ _ h
    | _ => cases hs <;> simp only [wr] at h
  | load m a f ih =>
    intro hs S k k' kp kp' hφ h hk hp
    cases hs with
    | nil => simp only [wr] at h
    | cons x hs =>
      cases x with
      | atj j =>
        have hφ' := hφ.mono (a := ldIds hs) (by intro i hi; simp [ldIds, hi])
        have hoff : ∀ S', Off S S' (ldIds hs) → Off S S' (ldIds (.atj j :: hs)) := fun S' ho => ho.mono (by intro i hi; simp [ldIds, hi])
        have e := hφ.get S j (by simp [ldIds])
        simp only [wr] at h ⊢
        rw [e]
        split at h
        · refine ⟨h.1, ?_⟩
          have h2 := h.2
          split at h2
          · exact ih _ hs hφ' h2 (fun a S' ho hh => hk a S' (hoff S' ho) hh) hp
          · exact h2.elim
        · exact h.elim
      | ex j sh =>
        have hφ' := hφ.mono (a := ldIds hs) (by intro i hi; simp [ldIds, hi])
        have hoff : ∀ S', Off S S' (ldIds hs) → Off S S' (ldIds (.ex j sh :: hs)) := fun S' ho => ho.mono (by intro i hi; simp [ldIds, hi])
        have e := hφ.get S j (by simp [ldIds])
        simp only [wr] at h ⊢
        rw [e]
        cases sh <;> simp only [Shape.ex] at h ⊢
        case slice => obtain ⟨a, l, c, h1, h2⟩ := h; exact ⟨a, l, c, h1, ih _ hs hφ' h2 (fun a S' ho hh => hk a S' (hoff S' ho) hh) hp⟩
        case is v => obtain ⟨h1, h2⟩ := h; exact ⟨h1, ih _ hs hφ' h2 (fun a S' ho hh => hk a S' (hoff S' ho) hh) hp⟩
        all_goals (obtain ⟨n, h1, h2⟩ := h; exact ⟨n, h1, ih _ hs hφ' h2 (fun a S' ho hh => hk a S' (hoff S' ho) hh) hp⟩)
      | nw j => simp only [wr] at h
  | store m a v s ih =>
    intro hs S k k' kp kp' hφ h hk hp
    cases hs with
    | nil => cases v <;> simp only [wr] at h
    | cons x hs =>
      cases x with
      | atj j =>
        have hφ' := hφ.mono (a := ldIds hs) (by intro i hi; simp [ldIds, hi])
        have e := hφ.get S j (by simp [ldIds])
        simp only [wr] at h ⊢
        rw [e]
        split at h
        · refine ⟨h.1, ?_⟩
          have h2 := h.2
          split at h2
          · split at h2
            · rw [← hφ.com S j _ (by simp [ldIds])]
              exact ih hs hφ' h2 (fun a S' ho hh => hk a S' ((Off.upd (by simp [ldIds]) _).trans (ho.mono (by intro i hi; simp [ldIds, hi]))) hh) hp
            · exact h2.elim
          · exact h2.elim
        · exact h.elim
      | ex j sh =>
        have hφ' := hφ.mono (a := ldIds hs) (by intro i hi; simp [ldIds, hi])
        have e := hφ.get S j (by simp [ldIds])
        simp only [wr] at h ⊢
        rw [e]
        split at h
        · refine ⟨h.1, ?_⟩
          have h2 := h.2
          split at h2
          · rw [← hφ.com S j _ (by simp [ldIds])]
            exact ih hs hφ' h2 (fun a S' ho hh => hk a S' ((Off.upd (by simp [ldIds]) _).trans (ho.mono (by intro i hi; simp [ldIds, hi]))) hh) hp
          · exact h2.elim
        · exact h.elim
      | nw j => simp only [wr] at h
  | new o f ih =>
    intro hs S k k' kp kp' hφ h hk hp
    cases hs with
    | nil => simp only [wr] at h
    | cons x hs =>
      cases x with
      | nw j =>
        have hφ' := hφ.mono (a := ldIds hs) (by intro i hi; simp [ldIds, hi])
        simp only [wr] at h ⊢
        intro b
        rw [← hφ.com S j _ (by simp [ldIds])]
        exact ih b hs hφ' (h b) (fun a S' ho hh => hk a S' ((Off.upd (by simp [ldIds]) _).trans (ho.mono (by intro i hi; simp [ldIds, hi]))) hh) hp
      | _ => simp only [wr] at h
  | shape r f ih =>
    intro hs S k k' kp kp' hφ h hk hp
    cases hs with
    | nil => simp only [wr] at h
    | cons x hs =>
      cases x with
      | atj j =>
        have hφ' := hφ.mono (a := ldIds hs) (by intro i hi; simp [ldIds, hi])
        have e := hφ.get S j (by simp [ldIds])
        simp only [wr] at h ⊢
        rw [e]
        split at h
        · exact ⟨h.1, ih _ hs hφ' h.2 (fun a S' ho hh => hk a S' (ho.mono (by intro i hi; simp [ldIds, hi])) hh) hp⟩
        · exact h.elim
      | _ => simp only [wr] at h
  | frozen a f ih =>
    intro hs S k k' kp kp' hφ h hk hp
    cases hs with
    | nil => simp only [wr] at h
    | cons x hs =>
      cases x with
      | atj j =>
        have hφ' := hφ.mono (a := ldIds hs) (by intro i hi; simp [ldIds, hi])
        have e := hφ.get S j (by simp [ldIds])
        simp only [wr] at h ⊢
        rw [e]
        split at h
        · exact ⟨h.1, ih _ hs hφ' h.2 (fun a S' ho hh => hk a S' (ho.mono (by intro i hi; simp [ldIds, hi])) hh) hp⟩
        · exact h.elim
      | _ => simp only [wr] at h
  | getObj r f ih =>
    intro hs S k k' kp kp' hφ h hk hp
    cases hs with
    | nil => simp only [wr] at h
    | cons x hs =>
      cases x with
      | atj j =>
        have hφ' := hφ.mono (a := ldIds hs) (by intro i hi; simp [ldIds, hi])
        have e := hφ.get S j (by simp [ldIds])
        simp only [wr] at h ⊢
        rw [e]
        split at h
        · exact h.elim
        · exact ⟨h.1, ih _ hs hφ' h.2 (fun a S' ho hh => hk a S' (ho.mono (by intro i hi; simp [ldIds, hi])) hh) hp⟩
        · exact h.elim
      | _ => simp only [wr] at h
  | setObj r o' s ih =>
    intro hs S k k' kp kp' hφ h hk hp
    cases hs with
    | nil => simp only [wr] at h
    | cons x hs =>
      cases x with
      | atj j =>
        have hφ' := hφ.mono (a := ldIds hs) (by intro i hi; simp [ldIds, hi])
        have e := hφ.get S j (by simp [ldIds])
        simp only [wr] at h ⊢
        rw [e]
        split at h
        · exact h.elim
        · refine ⟨h.1, ?_⟩
          rw [← hφ.com S j _ (by simp [ldIds])]
          exact ih hs hφ' h.2 (fun a S' ho hh => hk a S' ((Off.upd (by simp [ldIds]) _).trans (ho.mono (by intro i hi; simp [ldIds, hi]))) hh) hp
        · exact h.elim
      | _ => simp only [wr] at h
  | _ => intro hs S k k' kp kp' hφ h; cases hs <;> simp only [wr] at h
theorem clr_off (touch : List Nat) : ∀ (S : St) (ids : List Nat), (∀ j, j ∈ touch → j ∈ ids) → Off S (clr touch S) ids := by
  induction touch with
  | nil => intro S ids _; exact Off.refl _ _
  | cons j r ih =>
    intro S ids h
    exact (Off.upd (h j (List.mem_cons_self ..)) _).trans (ih _ ids fun i hi => h i (List.mem_cons_of_mem _ hi))
theorem plc_off (out : List Nat) : ∀ (l : List Atom) (S : St) (ids : List Nat), (∀ j, j ∈ out → j ∈ ids) → Off S (plc out l S) ids := by
  induction out with
  | nil => intro l S ids _; exact Off.refl _ _
  | cons j r ih =>
    intro l S ids h
    cases l with
    | nil => exact Off.refl _ _
    | cons A l => exact (Off.upd (h j (List.mem_cons_self ..)) _).trans (ih l _ ids fun i hi => h i (List.mem_cons_of_mem _ hi))
theorem clr_fr {φ : St → St} (touch : List Nat) : ∀ (S : St) {ids : List Nat}, Fr φ ids → (∀ j, j ∈ touch → j ∈ ids) → clr touch (φ S) = φ (clr touch S) := by
  induction touch with
  | nil => intro S ids _ _; rfl
  | cons j r ih =>
    intro S ids hφ h
    show clr r (updS (φ S) j .emp) = φ (clr r (updS S j .emp))
    rw [← hφ.com S j _ (h j (List.mem_cons_self ..))]
    exact ih _ hφ fun i hi => h i (List.mem_cons_of_mem _ hi)
theorem plc_fr {φ : St → St} (out : List Nat) : ∀ (l : List Atom) (S : St) {ids : List Nat}, Fr φ ids → (∀ j, j ∈ out → j ∈ ids) → plc out l (φ S) = φ (plc out l S) := by
  induction out with
  | nil => intro l S ids _ _; cases l <;> rfl
  | cons j r ih =>
    intro l S ids hφ h
    cases l with
    | nil => rfl
    | cons A l =>
      show plc r l (updS (φ S) j A) = φ (plc r l (updS S j A))
      rw [← hφ.com S j _ (h j (List.mem_cons_self ..))]
      exact ih l _ hφ fun i hi => h i (List.mem_cons_of_mem _ hi)
/-- A frame that hides nothing. -/
def Wide (φ : St → St) (S : St) : Prop := ∀ touch, Sub (.pred (rest S touch)) (.pred (rest (φ S) touch))
theorem Wide.id (S : St) : Wide (fun S => S) S := fun _ _ _ o h => ⟨o, h⟩
theorem Wide.upd {S : St} {j : Nat} (hj : gt S j = .emp) (A : Atom) : Wide (fun S => updS S j A) S := by
  intro touch I h o ho
  obtain ⟨f, h1, h2, h3⟩ := ho
  refine ⟨o, fun i b => i ≠ j ∧ f i b, fun i => ?_, fun i i' b hb hb' => h2 _ _ _ hb.2 hb'.2, fun i b hb => h3 _ _ hb.2⟩
  have := h1 i
  rw [gt_clr] at this ⊢
  by_cases hi : i ∈ touch
  · simp only [hi, if_true]; trivial
  · simp only [hi, if_false] at this ⊢
    by_cases hij : i = j
    · subst hij; rw [hj]; trivial
    · rw [gt_upd] at this
      simp only [hij, if_false] at this
      have e : (fun b => i ≠ j ∧ f i b) = f i := by funext b; simp [hij]
      show Atom.holds I h (fun b => i ≠ j ∧ f i b) (gt S i)
      rw [e]; exact this
theorem useC_step {φ : St → St} {C : Con} {args : List Value} {touch out : List Nat} {S : St} {k k' : Value → St → Prop} {kp kp' : List PanicEntry → St → Prop}
    (hφ : Fr φ (touch ++ out)) (hw : Wide φ S) (hu : useC C args touch out S k kp) (hk : ∀ v S', Off S S' (touch ++ out) → k v S' → k' v (φ S')) (hp : ∀ ch S', kp ch S' → kp' ch (φ S')) :
    useC C args touch out (φ S) k' kp' := by
  obtain ⟨x, ha, hpre, hc, hr, hy⟩ := hu
  refine ⟨x, ha, ?_, hc, C.rmono x _ _ (hw touch) hr, fun y hrel => ?_⟩
  · rw [← hpre]
    exact List.map_congr_left fun j hj => hφ.get S j (List.mem_append_left _ hj)
  · have := hy y hrel
    have e : plc out (C.post x y) (clr touch (φ S)) = φ (plc out (C.post x y) (clr touch S)) := by
      rw [clr_fr touch S hφ (fun j hj => List.mem_append_left _ hj), plc_fr out _ _ hφ (fun j hj => List.mem_append_right _ hj)]
    rw [e]
    cases hv : C.val x y <;> simp only [hv] at this ⊢
    · exact hk _ _ ((clr_off touch S _ fun j hj => List.mem_append_left _ hj).trans (plc_off out _ _ _ fun j hj => List.mem_append_right _ hj)) this
    · exact hp _ _ this
theorem opRun_step {o : Oper} {h : OH} {T T' : Tm} {S : St} {φ : St → St} {k k' : Tm → St → Prop} {kp kp' : List PanicEntry → Tm → St → Prop} (hsel : isSel o = false)
    (he : ∀ x, x ∈ o.op.operands → ev T x = ev T' x) (hφ : Fr φ (allIds (cls (res P o h)))) (hw : Wide φ S) (hr : opRun P N o h T S k kp)
    (hk : ∀ v S', Off S S' (idsOf (cls (res P o h))) → k (putT N o.dst v T) S' → k' (putT N o.dst v T') (φ S')) (hp : ∀ ch S', kp ch T S' → kp' ch T' (φ S')) :
    opRun P N o h T' (φ S) k' kp' := by
  have hex : execOp (ev T) o = execOp (ev T') o := execOp_congr o (notSel hsel) he
  have hmap : o.op.operands.toList.map (ev T) = o.op.operands.toList.map (ev T') := List.map_congr_left fun x hx => he x (Array.mem_toList_iff.1 hx)
  unfold opRun at *
  generalize hg : res P o h = g at *
  cases g with
  | ask r i => exact hr.no.elim
  | w hs =>
    simp only at hr ⊢
    rw [← hex]
    refine wr_step _ hs (by simpa [allIds, cls, readsOf, idsOf] using hφ) hr (fun x S' ho hh => ?_) (fun v S' hh => hp _ _ hh)
    cases x <;> first | exact hh.elim | exact hk _ _ (by simpa [cls, idsOf] using ho) hh
  | n j =>
    simp only at hr ⊢
    rw [← hex]
    split at hr
    · intro b
      have hb := hr b
      split at hb
      · rename_i v hv
        have := hk v (updS S j (mkAtom b _)) (by simpa [cls, idsOf] using Off.upd (by simp) _) hb
        rw [hφ.com S j _ (by simp [allIds, cls, idsOf])] at this
        exact this
      · exact hb.elim
    · exact hr.elim
  | c C touch out =>
    simp only at hr ⊢
    rw [← hex]
    refine rd_step (hs := []) ⟨fun _ _ hj => by simp [ldIds] at hj, fun _ _ _ hj => by simp [ldIds] at hj⟩ hr fun nx hh => ?_
    cases nx <;> first
      | exact hh.elim
      | exact ⟨hh.1, hh.2.1, useC_step (by simpa [allIds, cls, readsOf, idsOf] using hφ) hw hh.2.2 (fun v S' ho h => hk v S' (by simpa [cls, idsOf] using ho) h) (fun ch S' h => hp ch S' h)⟩
  | o C touch out =>
    simp only at hr ⊢
    rw [← hmap]
    exact ⟨hr.1, hr.2.1, useC_step (by simpa [allIds, cls, readsOf, idsOf] using hφ) hw hr.2.2 (fun v S' ho h => hk v S' (by simpa [cls, idsOf] using ho) h) (fun ch S' h => hp ch S' h)⟩
  | slu =>
    simp only [sluV] at hr ⊢
    split at hr
    · rename_i t x lo hi hop
      have hx := he x (by simp [hop, Op.operands])
      have hlo : ∀ d, optI T d lo = optI T' d lo := fun d => optI_congr fun y hy => he y (by subst hy; simp [hop, Op.operands])
      have hhi : ∀ d, optI T d hi = optI T' d hi := fun d => optI_congr fun y hy => he y (by subst hy; simp [hop, Op.operands])
      simp only [hop, ← hx, ← hlo, ← hhi]
      split at hr
      · split at hr
        · exact ⟨hr.1, fun v => hk v S (Off.refl _ _) (hr.2 v)⟩
        · exact hr.elim
      · exact hr.elim
    · exact hr.elim
  | _ =>
    obtain ⟨v, hv, hkv⟩ := q_eq hr
    have h1 := q_congr (S' := φ S) hsel he (fun j hj => (hφ.get S j (List.mem_append_left _ hj)).symm) hv
    obtain ⟨u, hu, e⟩ := q_eq h1
    subst e
    exact q_mono hu (fun a e => by subst e; exact hk _ S (Off.refl _ _) hkv)
end
end Go.Proofs.Ytmknmibmnidnoaa
