/- The engine, part D: what the evaluator computes is enough: operations, regions in the text's order, code, a whole body. -/
import Derived.Test.YtmknmibmnidnoaaEngC
set_option linter.all false
namespace Go.Proofs.Ytmknmibmnidnoaa
open Go

/-- The state behind a step. -/
structure Aft (N : Nat) (I : Imm) (w0 : World) (ds : List Deferred) (K : Tm → St → Prop) (a : Act) (w : World) : Prop where
  h : ∃ T S J, Rel N T a ∧ a.defers = ds ∧ Imm.le I J ∧ Sat J S w ∧ Env w0 w ∧ K T S
theorem Aft.from {N : Nat} {I J : Imm} {w0 w1 : World} {ds : List Deferred} {K : Tm → St → Prop} {a : Act} {w : World} (h : Aft N J w1 ds K a w) (hle : Imm.le I J) (he : Env w0 w1) : Aft N I w0 ds K a w := by
  obtain ⟨T, S, J', h1, h2, h3, h4, h5, h6⟩ := h
  exact ⟨T, S, J', h1, h2, Imm.le_trans hle h3, h4, he.trans h5, h6⟩
theorem Aft.mono {N : Nat} {I : Imm} {w0 : World} {ds : List Deferred} {K K' : Tm → St → Prop} {a : Act} {w : World} (h : Aft N I w0 ds K a w) (hk : ∀ T S, K T S → K' T S) : Aft N I w0 ds K' a w := by
  obtain ⟨T, S, J', h1, h2, h3, h4, h5, h6⟩ := h
  exact ⟨T, S, J', h1, h2, h3, h4, h5, hk _ _ h6⟩
section
variable {P : Program} {N : Nat}
theorem Br.cases {t : Bool} {A B : Prop} (h : Br t A B) : (t = true ∧ A) ∨ (t = false ∧ B) := by
  cases t
  · exact .inr ⟨rfl, h⟩
  · exact .inl ⟨rfl, h⟩
theorem rd_mono {α : Type} {S : St} : ∀ (s : Sem α) (hs : List LH) {k k' : α → Prop}, rd P S s hs k → (∀ a, k a → k' a) → rd P S s hs k' := by
  intro s
  induction s with
  | pure a => intro hs k k' h hk; exact hk _ h
  | program f ih => intro hs k k' h hk; exact ih P hs h hk
  | mark m s ih => intro hs k k' h hk; exact ih hs h hk
  | load m a f ih =>
    intro hs k k' h hk
    cases hs with
    | nil => simp only [rd] at h
    | cons x hs =>
      cases x with
      | atj j =>
        simp only [rd] at h ⊢
        split at h
        · refine ⟨h.1, ?_⟩
          have h2 := h.2
          split at h2
          · exact ih _ hs h2 hk
          · exact h2.elim
        · exact h.elim
      | ex j sh =>
        simp only [rd] at h ⊢
        cases sh <;> simp only [Shape.ex] at h ⊢
        case slice => obtain ⟨a, l, c, h1, h2⟩ := h; exact ⟨a, l, c, h1, ih _ hs h2 hk⟩
        case is v => obtain ⟨h1, h2⟩ := h; exact ⟨h1, ih _ hs h2 hk⟩
        all_goals (obtain ⟨n, h1, h2⟩ := h; exact ⟨n, h1, ih _ hs h2 hk⟩)
      | nw j => simp only [rd] at h
  | _ => intro hs k k' h hk; cases hs <;> simp only [rd] at h
theorem rd_eq {α : Type} {S : St} : ∀ (s : Sem α) (hs : List LH) {k : α → Prop}, rd P S s hs k → ∃ a, rd P S s hs (· = a) ∧ k a := by
  intro s
  induction s with
  | pure a => intro hs k h; exact ⟨a, rfl, h⟩
  | program f ih => intro hs k h; exact ih P hs h
  | mark m s ih => intro hs k h; exact ih hs h
  | load m a f ih =>
    intro hs k h
    cases hs with
    | nil => simp only [rd] at h
    | cons x hs =>
      cases x with
      | atj j =>
        simp only [rd] at h ⊢
        split at h
        · have h2 := h.2
          split at h2
          · obtain ⟨u, hu, hk⟩ := ih _ hs h2
            rename_i v hv
            exact ⟨u, ⟨h.1, hu⟩, hk⟩
          · exact h2.elim
        · exact h.elim
      | ex j sh =>
        simp only [rd] at h ⊢
        cases sh <;> simp only [Shape.ex] at h ⊢
        case slice => obtain ⟨a, l, c, h1, h2⟩ := h; obtain ⟨u, hu, hk⟩ := ih _ hs h2; exact ⟨u, ⟨a, l, c, h1, hu⟩, hk⟩
        case is v => obtain ⟨h1, h2⟩ := h; obtain ⟨u, hu, hk⟩ := ih _ hs h2; exact ⟨u, ⟨h1, hu⟩, hk⟩
        all_goals (obtain ⟨n, h1, h2⟩ := h; obtain ⟨u, hu, hk⟩ := ih _ hs h2; exact ⟨u, ⟨n, h1, hu⟩, hk⟩)
      | nw j => simp only [rd] at h
  | _ => intro hs k h; cases hs <;> simp only [rd] at h
theorem rd_congr {α : Type} {S S' : St} {k : α → Prop} : ∀ (s : Sem α) (hs : List LH), (∀ j, j ∈ ldIds hs → gt S j = gt S' j) → rd P S s hs k → rd P S' s hs k := by
  intro s
  induction s with
  | pure a => intro hs he h; exact h
  | program f ih => intro hs he h; exact ih P hs he h
  | mark m s ih => intro hs he h; exact ih hs he h
  | load m a f ih =>
    intro hs he h
    cases hs with
    | nil => simp only [rd] at h
    | cons x hs =>
      cases x with
      | atj j =>
        have e := he j (by simp [ldIds])
        have he' : ∀ i, i ∈ ldIds hs → gt S i = gt S' i := fun i hi => he i (by simp [ldIds, hi])
        simp only [rd] at h ⊢
        rw [← e]
        split at h
        · refine ⟨h.1, ?_⟩
          have h2 := h.2
          split at h2
          · exact ih _ hs he' h2
          · exact h2.elim
        · exact h.elim
      | ex j sh =>
        have e := he j (by simp [ldIds])
        have he' : ∀ i, i ∈ ldIds hs → gt S i = gt S' i := fun i hi => he i (by simp [ldIds, hi])
        simp only [rd] at h ⊢
        rw [← e]
        cases sh <;> simp only [Shape.ex] at h ⊢
        case slice => obtain ⟨a, l, c, h1, h2⟩ := h; exact ⟨a, l, c, h1, ih _ hs he' h2⟩
        case is v => obtain ⟨h1, h2⟩ := h; exact ⟨h1, ih _ hs he' h2⟩
        all_goals (obtain ⟨n, h1, h2⟩ := h; exact ⟨n, h1, ih _ hs he' h2⟩)
      | nw j => simp only [rd] at h
  | _ => intro hs he h; cases hs <;> simp only [rd] at h

/-- What a quiet operation's run is. -/
def Val (P : Program) (o : Oper) (T : Tm) (w : World) (v : Value) : Prop :=
  (execOp (ev T) o).run P w = .ok (.value v) w ∨ ((execOp (ev T) o).run P w = .ok .skip w ∧ v = undef)
theorem Val.unique {o : Oper} {T : Tm} {w : World} {u v : Value} (h : Val P o T w u) (h' : Val P o T w v) : u = v := by
  rcases h with h | ⟨h, rfl⟩ <;> rcases h' with h' | ⟨h', rfl⟩
  · rw [h] at h'; simpa using h'
  · rw [h] at h'; cases h'
  · rw [h] at h'; cases h'
  · rfl
theorem q_eq {o : Oper} {h : OH} {T : Tm} {S : St} {k : Value → Prop} (hr : qRun P o h T S k) : ∃ v, qRun P o h T S (· = v) ∧ k v := by
  unfold qRun at hr
  split at hr
  · rename_i hs
    obtain ⟨nx, h1, h2⟩ := rd_eq _ _ hr
    cases nx <;> first
      | exact h2.elim
      | exact ⟨_, rd_mono _ _ h1 (fun a e => by subst e; rfl), h2⟩
  · rename_i C
    obtain ⟨hok, x, ha, hc, hk⟩ := hr
    exact ⟨_, ⟨hok, x, ha, hc, rfl⟩, hk⟩
  · unfold qRun
    split at hr
    · rename_i c x y hop
      split at hr
      · rename_i t hc
        simp only [hop, hc]
        rcases Br.cases hr with ⟨rfl, hk⟩ | ⟨rfl, hk⟩
        · exact ⟨_, (rfl : _ = _), hk⟩
        · exact ⟨_, (rfl : _ = _), hk⟩
      · exact hr.elim
    · exact hr.elim
  · unfold qRun ckV at *
    split at hr
    · rename_i x y _ hop
      split at hr
      · rename_i i a j b hx hy
        split at hr
        · rename_i hij
          simp only [hop, hx, hy, hij]
          exact ⟨_, ⟨hr.1, rfl⟩, hr.2⟩
        · exact hr.elim
      · rename_i s t hx hy
        simp only [hop, hx, hy]
        exact ⟨_, ⟨hr.1, rfl⟩, hr.2⟩
      · exact hr.elim
    · rename_i x y _ hop
      split at hr
      · rename_i i a j b hx hy
        split at hr
        · rename_i hij
          simp only [hop, hx, hy, hij]
          exact ⟨_, ⟨hr.1, rfl⟩, hr.2⟩
        · exact hr.elim
      · exact hr.elim
    · rename_i x y _ hop
      split at hr
      · rename_i i a j b hx hy
        split at hr
        · rename_i hij
          simp only [hop, hx, hy, hij]
          exact ⟨_, ⟨hr.1, rfl⟩, hr.2⟩
        · exact hr.elim
      · exact hr.elim
    · rename_i x y _ hop
      split at hr
      · rename_i i a j b hx hy
        split at hr
        · rename_i hij
          simp only [hop, hx, hy, hij]
          exact ⟨_, ⟨hr.1, hr.2.1, rfl⟩, hr.2.2⟩
        · exact hr.elim
      · exact hr.elim
    · rename_i x y _ hop
      split at hr
      · rename_i i a j b hx hy
        split at hr
        · rename_i hij
          simp only [hop, hx, hy, hij]
          exact ⟨_, ⟨hr.1, rfl⟩, hr.2⟩
        · exact hr.elim
      · exact hr.elim
    · rename_i s d x hop
      split at hr
      · rename_i u i j a h1 h2 hx
        simp only [hop, h1, h2, hx]
        exact ⟨_, ⟨hr.1, rfl⟩, hr.2⟩
      · exact hr.elim
    · exact hr.elim
  · unfold qRun ixV at *
    split at hr
    · rename_i t x i hop
      split at hr
      · rename_i e ht
        split at hr
        · rename_i inf b off len cap kk n hi hx hn
          simp only [hop, ht, hi, hx, hn]; exact ⟨_, ⟨hr.1, rfl⟩, hr.2⟩
        · exact hr.elim
      · rename_i m e ht
        split at hr
        · rename_i inf b off kk n hi hx hn
          simp only [hop, ht, hi, hx, hn]; exact ⟨_, ⟨hr.1, rfl⟩, hr.2⟩
        · exact hr.elim
      · exact hr.elim
    · exact hr.elim
  · unfold qRun siV at *
    split at hr
    · rename_i t x i hop
      split at hr
      · rename_i s kk n ht hx hn
        simp only [hop, ht, hx, hn]; exact ⟨_, ⟨hr.1, rfl⟩, hr.2⟩
      · exact hr.elim
    · exact hr.elim
  · unfold qRun slV at *
    split at hr
    · rename_i t x lo hi hop
      split at hr
      · rename_i ht
        split at hr
        · rename_i s hx
          split at hr
          · rename_i l hh hl hhi
            simp only [hop, ht, hx, hl, hhi]; exact ⟨_, ⟨hr.1, rfl⟩, hr.2⟩
          · exact hr.elim
        · exact hr.elim
      · rename_i e ht
        split at hr
        · rename_i inf b off len cap hi' hx
          split at hr
          · rename_i l hh hl hhi
            simp only [hop, ht, hi', hx, hl, hhi]; exact ⟨_, ⟨hr.1, rfl⟩, hr.2⟩
          · exact hr.elim
        · exact hr.elim
      · exact hr.elim
    · exact hr.elim
  · exact hr.elim
theorem q_mono {o : Oper} {h : OH} {T : Tm} {S : St} {k k' : Value → Prop} (hr : qRun P o h T S k) (hk : ∀ v, k v → k' v) : qRun P o h T S k' := by
  unfold qRun at *
  split at hr
  · refine rd_mono _ _ hr fun nx h => ?_
    cases nx <;> first | exact h.elim | exact hk _ h
  · obtain ⟨hok, x, ha, hc, h⟩ := hr
    exact ⟨hok, x, ha, hc, hk _ h⟩
  · split at hr
    · rename_i c x y hop
      split at hr
      · rename_i t hc
        rcases Br.cases hr with ⟨rfl, h⟩ | ⟨rfl, h⟩
        · exact hk _ h
        · exact hk _ h
      · exact hr.elim
    · exact hr.elim
  · unfold ckV at *
    split at hr <;> first
      | exact hr.elim
      | (split at hr <;> first
          | exact hr.elim
          | exact ⟨hr.1, hk _ hr.2⟩
          | (split at hr <;> first
              | exact hr.elim
              | exact ⟨hr.1, hr.2.1, hk _ hr.2.2⟩
              | exact ⟨hr.1, hk _ hr.2⟩))
  · unfold ixV at *
    split at hr
    · split at hr
      · split at hr
        · exact ⟨hr.1, hk _ hr.2⟩
        · exact hr.elim
      · split at hr
        · exact ⟨hr.1, hk _ hr.2⟩
        · exact hr.elim
      · exact hr.elim
    · exact hr.elim
  · unfold siV at *
    split at hr
    · split at hr
      · exact ⟨hr.1, hk _ hr.2⟩
      · exact hr.elim
    · exact hr.elim
  · unfold slV at *
    split at hr
    · split at hr
      · split at hr
        · split at hr
          · exact ⟨hr.1, hk _ hr.2⟩
          · exact hr.elim
        · exact hr.elim
      · split at hr
        · split at hr
          · exact ⟨hr.1, hk _ hr.2⟩
          · exact hr.elim
        · exact hr.elim
      · exact hr.elim
    · exact hr.elim
  · exact hr.elim
theorem q_val {o : Oper} {h : OH} {T : Tm} {S : St} {k : Value → Prop} {I : Imm} {w : World} (hr : qRun P o h T S k) (hs : Sat I S w) : ∃ v, Val P o T w v ∧ k v := by
  unfold qRun at hr
  split at hr
  · obtain ⟨nx, hrun, hk⟩ := rd_sound hs _ _ _ hr
    cases nx <;> first
      | exact hk.elim
      | exact ⟨_, .inl hrun, hk⟩
      | exact ⟨_, .inr ⟨hrun, rfl⟩, hk⟩
  · obtain ⟨hok, x, ha, hc, hk⟩ := hr
    exact ⟨_, .inl (hok.h x w (ev T) ha hc), hk⟩
  · split at hr
    · rename_i c x y hop
      split at hr
      · rename_i t hc
        have hrun : (execOp (ev T) o).run P w = .ok (.value (if t then ev T x else ev T y)) w := by
          simp [execOp, hop, hc, asBool, Sem.run]
        rcases Br.cases hr with ⟨rfl, hk⟩ | ⟨rfl, hk⟩
        · exact ⟨_, .inl hrun, hk⟩
        · exact ⟨_, .inl hrun, hk⟩
      · exact hr.elim
    · exact hr.elim
  · obtain ⟨v, hrun, hk⟩ := ck_run hr w
    exact ⟨v, .inl hrun, hk⟩
  · obtain ⟨v, hrun, hk⟩ := ix_run hr w
    exact ⟨v, .inl hrun, hk⟩
  · obtain ⟨v, hrun, hk⟩ := si_run hr w
    exact ⟨v, .inl hrun, hk⟩
  · obtain ⟨v, hrun, hk⟩ := sl_run hr w
    exact ⟨v, .inl hrun, hk⟩
  · exact hr.elim
theorem Val.upon {o : Oper} {T : Tm} {w : World} {v : Value} (h : Val P o T w v) {a : Act} {next : Act → World → Prop} {Q : Exit → Act → World → Prop} (hn : next (a.put o.dst v) w) :
    o.upon P a next Q ((execOp (ev T) o).run P w) := by
  rcases h with h | ⟨h, rfl⟩
  · rw [h]; exact hn
  · rw [h]; exact hn
theorem pureF_run {α : Type} : ∀ (s : Sem α) {a : α} (w : World), pureF P s = some a → s.run P w = .ok a w := by
  intro s
  induction s with
  | pure a => intro b w h; simp only [pureF, Option.some.injEq] at h; subst h; rfl
  | program f ih => intro b w h; exact ih P w h
  | mark m s ih => intro b w h; exact ih w h
  | _ => intro b w h; simp [pureF] at h
theorem alF_run {α : Type} : ∀ (s : Sem α) {ob : Obj} {f : Nat → Sem α} (w : World), alF P s = some (ob, f) → s.run P w = (f w.heap.size).run P { w with heap := w.heap.push ob } := by
  intro s
  induction s with
  | new o g ih => intro ob f w h; simp only [alF, Option.some.injEq, Prod.mk.injEq] at h; obtain ⟨rfl, rfl⟩ := h; rfl
  | program f ih => intro ob g w h; exact ih P w h
  | mark m s ih => intro ob g w h; exact ih w h
  | _ => intro ob g w h; simp [alF] at h
theorem opRun_sound {o : Oper} {h : OH} {T : Tm} {S : St} {k : Tm → St → Prop} {kp : List PanicEntry → Tm → St → Prop} {a : Act} {I : Imm} {w : World} {ds : List Deferred} {next : Act → World → Prop} {Q : Exit → Act → World → Prop}
    (hr : opRun P N o h T S k kp) (hrel : Rel N T a) (hd : a.defers = ds) (hs : Sat I S w)
    (hnext : ∀ a' w', Aft N I w ds k a' w' → next a' w') (hQ : ∀ ch a' w', Aft N I w ds (kp ch) a' w' → Q (.panic ch) a' w') : o.wp P a w next Q := by
  unfold Oper.wp
  rw [hrel.eval]
  unfold opRun at hr
  split at hr
  · exact hr.no.elim
  · have hw := wr_sound _ _ _ _ _ _ hs hr
    cases hrun : (execOp (ev T) o).run P w with
    | ok nx w' =>
      rw [hrun] at hw
      cases hw with
      | ok _ _ S' hs' he hk =>
        split at hk
        · exact hnext _ _ ⟨_, S', I, hrel.put _ _, by rw [put_defers]; exact hd, Imm.le_refl I, hs', he, hk⟩
        · exact hnext _ _ ⟨_, S', I, hrel.put _ _, by rw [put_defers]; exact hd, Imm.le_refl I, hs', he, hk⟩
        · exact hk.elim
    | halt x w' =>
      rw [hrun] at hw
      cases hw with
      | panic v _ S' hs' he hk => exact hQ _ _ _ ⟨_, S', I, hrel, hd, Imm.le_refl I, hs', he, hk⟩
  · rename_i j _
    split at hr
    · rename_i ob f hal
      have hb := hr w.heap.size
      split at hb
      · rename_i v hv
        rw [alF_run _ w hal, pureF_run _ _ hv]
        exact hnext _ _ ⟨_, _, I, hrel.put _ _, by rw [put_defers]; exact hd, Imm.le_refl I, hs.new j ob, ⟨rfl, rfl⟩, hb⟩
      · exact hb.elim
    · exact hr.elim
  · obtain ⟨nx, hrun, hk⟩ := rd_sound hs _ _ _ hr
    rw [hrun]
    split at hk
    · rename_i f args
      obtain ⟨hok, hn, hu⟩ := hk
      rw [Oper.upon_enter]
      refine (useC_calls hok (by simp only [Bool.and_eq_true] at hn; exact hn.1) hs hu).mono ?_
      rintro e w' ⟨J, S', hle, hs', he, hk⟩
      cases e with
      | returned v => exact hnext _ _ ⟨_, S', J, hrel.put _ _, by rw [put_defers]; exact hd, hle, hs', he, hk⟩
      | panicked ch => exact hQ _ _ _ ⟨_, S', J, hrel, hd, hle, hs', he, hk⟩
      | outgrown => exact hk.elim
    · exact hk.elim
  · obtain ⟨hok, hn, x, ha, hp, hc, hrd, hk⟩ := hr
    simp only [Bool.and_eq_true] at hn
    have hs1 := hs.part (nodupB_spec hn.1)
    rw [hp] at hs1
    obtain ⟨y, J, w', v, hrl, hrun, hv, hle, hs', he⟩ := hok.h x _ I w (ev T) ha hc hrd hs1
    rw [hrun]
    have := hk y hrl
    rw [hv] at this
    exact hnext _ _ ⟨_, _, J, hrel.put _ _, by rw [put_defers]; exact hd, hle, hs'.join (out := _), he, this⟩
  · obtain ⟨v, hrun, hk⟩ := slu_run hr w
    rw [hrun]
    exact hnext _ _ ⟨_, S, I, hrel.put _ _, by rw [put_defers]; exact hd, Imm.le_refl I, hs, Env.refl w, hk v⟩
  · obtain ⟨v, hv, hk⟩ := q_val hr hs
    exact hv.upon (hnext _ _ ⟨_, S, I, hrel.put _ _, by rw [put_defers]; exact hd, Imm.le_refl I, hs, Env.refl w, hk⟩)
/-- A slot that is set to what it holds. -/
theorem Rel.again {T : Tm} {a : Act} (h : Rel N T a) (d : Nat) {v : Value} (e : T.at d = v) : Rel N (putT N (some d) v T) a := by
  refine h.same fun i => ?_
  rw [putT_at]
  split
  · rename_i hh; rw [hh.2, e]
  · rfl
theorem yielded_at {ops : Array Oper} {j d : Nat} {T : Tm} {a : Act} (h : Rel N T a) (hj : (ops[j]?).bind (·.dst) = some d) {t : Bool} (ht : T.at d = .bool t) : yielded ops a.tmps j = some t := by
  unfold yielded
  rw [hj]
  have hg := h.get d
  rw [ht, Array.getD_eq_getD_getElem?] at hg
  cases hx : a.tmps[d]? with
  | none => rw [hx] at hg; simp [undef] at hg
  | some x =>
    rw [hx] at hg
    simp only [Option.getD_some] at hg
    simp [hx, hg]
theorem opStep_sound {ops : Array Oper} {o : Oper} {h : OH} {T : Tm} {S : St} {k : Tm → St → Prop} {kp : List PanicEntry → Tm → St → Prop} {a : Act} {I : Imm} {w : World} {ds : List Deferred} {next : Act → World → Prop} {Q : Exit → Act → World → Prop}
    (hr : opStep P N ops o h T S k kp) (hrel : Rel N T a) (hd : a.defers = ds) (hs : Sat I S w)
    (hnext : ∀ a' w', Aft N I w ds k a' w' → next a' w') (hQ : ∀ ch a' w', Aft N I w ds (kp ch) a' w' → Q (.panic ch) a' w') :
    if Region.wanted o (yielded ops a.tmps) then o.wp P a w next Q ∨ (o.asks P a w ∧ LetsOut Q) else next (a.put o.dst undef) w := by
  unfold opStep at hr
  split at hr
  · rename_i hg
    have : Region.wanted o (yielded ops a.tmps) = true := by unfold Region.wanted; rw [hg]
    rw [if_pos this]
    exact .inl (opRun_sound hr hrel hd hs hnext hQ)
  · rename_i j want hg
    split at hr
    · exact hr.elim
    · rename_i d hj
      split at hr
      · rename_i t ht
        have hy := yielded_at hrel hj ht
        have hw : Region.wanted o (yielded ops a.tmps) = (t == want) := by
          unfold Region.wanted; rw [hg]; simp only [hy]; cases t <;> cases want <;> rfl
        rcases Br.cases hr with ⟨rfl, hk⟩ | ⟨rfl, hk⟩
        · have hrel' := hrel.again d ht
          cases want
          · rw [hw]
            simp only [Bool.true_beq, Bool.false_eq_true, if_false]
            exact hnext _ _ ⟨_, S, I, hrel'.put _ _, by rw [put_defers]; exact hd, Imm.le_refl I, hs, Env.refl w, hk⟩
          · rw [hw]
            exact .inl (opRun_sound hk hrel' hd hs hnext hQ)
        · have hrel' := hrel.again d ht
          cases want
          · rw [hw]
            exact .inl (opRun_sound hk hrel' hd hs hnext hQ)
          · rw [hw]
            simp only [Bool.false_beq, Bool.not_true, Bool.false_eq_true, if_false]
            exact hnext _ _ ⟨_, S, I, hrel'.put _ _, by rw [put_defers]; exact hd, Imm.le_refl I, hs, Env.refl w, hk⟩
      · exact hr.elim
theorem rg_sound {H : Nat → OH} {ops : Array Oper} {ds : List Deferred} {Q : Exit → Act → World → Prop} : ∀ (l : List Nat) {T : Tm} {S : St} {k : Tm → St → Prop} {kp : List PanicEntry → Tm → St → Prop} {a : Act} {I : Imm} {w : World},
    rg P N H ops l T S k kp → Rel N T a → a.defers = ds → Sat I S w → (∀ a' w', Aft N I w ds k a' w' → Q .normal a' w') → (∀ ch a' w', Aft N I w ds (kp ch) a' w' → Q (.panic ch) a' w') →
    wpOps P ops Q l a w := by
  intro l
  induction l with
  | nil =>
    intro T S k kp a I w hr hrel hd hs hk _
    exact hk _ _ ⟨T, S, I, hrel, hd, Imm.le_refl I, hs, Env.refl w, hr⟩
  | cons i rest ih =>
    intro T S k kp a I w hr hrel hd hs hk hQ
    simp only [rg] at hr
    simp only [wpOps]
    split at hr
    · exact hr.elim
    · rename_i o ho
      have := opStep_sound (next := wpOps P ops Q rest) (Q := Q) hr hrel hd hs (fun a' w' haft => by
        obtain ⟨T', S', J, h1, h2, h3, h4, h5, h6⟩ := haft
        exact ih h6 h1 h2 h4 (fun a w h => hk a w (h.from h3 h5)) (fun ch a w h => hQ ch a w (h.from h3 h5))) hQ
      simpa [ho] using this
end
end Go.Proofs.Ytmknmibmnidnoaa
