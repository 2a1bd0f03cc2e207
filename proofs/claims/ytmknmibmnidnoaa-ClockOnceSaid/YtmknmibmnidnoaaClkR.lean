/- ClockOnce: its walk. -/
import Derived.Test.YtmknmibmnidnoaaClkQ
set_option linter.all false
namespace Go.Proofs.Ytmknmibmnidnoaa
open Go
def CallD.at' (c : CallD) (i : Nat) : CallD := ⟨c.kind, c.ow, c.id, c.dl, i, c.by'⟩
def idxC : List CallD → Nat → List CallD
  | [], _ => []
  | c :: r, i => c.at' i :: idxC r (i + 1)
theorem idxC_snoc (l : List CallD) (d : CallD) : ∀ i, idxC (l ++ [d]) i = idxC l i ++ [d.at' (i + l.length)] := by
  induction l with
  | nil => intro i; rfl
  | cons x r ih => intro i; rw [List.cons_append, idxC, ih, idxC, List.cons_append, List.length_cons, Nat.add_right_comm]; rfl
def runI (cs : List CallD) (k : Nat) : Clk := run (idxC (cs.take k) 0)
theorem runI_succ {cs : List CallD} {k : Nat} {c : CallD} (h : cs[k]? = some c) : runI cs (k + 1) = stepC (runI cs k) (c.at' k) := by
  have hk : k < cs.length := (List.getElem?_eq_some_iff.1 h).1
  unfold runI
  rw [List.take_add_one, h]
  show run (idxC (cs.take k ++ [c]) 0) = _
  rw [idxC_snoc, run_snoc, List.length_take, Nat.min_eq_left (by omega), Nat.zero_add]
structure OnceX where
  a : Option Addr
  n : Nat
  cap : Nat
  cs : List CallD
def onceC : Con where
  X := OnceX
  Y := Unit
  args x := [.slice x.a x.n x.cap]
  pre _ := []
  cond x := IsSrc 6 (encC x.cs) x.a x.n
  rdc x F := Srcd F x.a (encC x.cs)
  rel _ _ := True
  val _ _ := .returned (.bool true)
  post _ _ := []
  rmono _ _ _ h hk := hk.sub h
structure OnceI where
  k : Nat
  b : Nat
  row : Row
  bd : Nat
  bc : Nat
  ds : List Int
  cm : List Int
structure OnceJ where
  k : Nat
  c : CallD
  b : Nat
  row : Row
  bd : Nat
  bc : Nat
  ds : List Int
  cm : List Int
  b8 : Nat
  b9 : Nat
  e : Int
  r : Row
  m : Nat
def Due1 (cs : List CallD) (k : Nat) (ds cm : List Int) (n e : Int) : Prop := ∃ j : Nat, n = j ∧ j < k ∧ (∃ c, cs[j]? = some c ∧ c.kind.tmod 5 = 0) ∧ cm[j]? = some 0 ∧ ds[j]? = some e
def Good (cs : List CallD) (k : Nat) (ds cm : List Int) (ts : List Tmr) : Prop := (ts.map (·.n)).Nodup ∧ (∀ t ∈ ts, Due1 cs k ds cm t.n t.due) ∧ ∀ j, k ≤ j → j < cm.length → cm[j]? = some 0
def Bring (cs : List CallD) (k : Nat) (ds cm : List Int) (ns : List Int) (q now : Int) : Prop := ns.Nodup ∧ ∀ n ∈ ns, ∃ e, Due1 cs k ds cm n e ∧ (q = 3 → e ≤ now)
def onceP (x : OnceX) (k : Nat) (row : Row) (ds cm : List Int) : Prop := x.n ≤ 300 ∧ k ≤ x.n ∧ isTs (runI x.cs k).ts row ∧ ds.length = x.n ∧ cm.length = x.n ∧ Good x.cs k ds cm (runI x.cs k).ts
def onceO (x : OnceX) (k : Nat) (c : CallD) : List Int := stepO (runI x.cs k) (c.at' k)
def onceQ (x : OnceX) (k : Nat) (c : CallD) (row : Row) (ds cm : List Int) (r : Row) (m : Nat) : Prop :=
  k < x.n ∧ x.cs[k]? = some c ∧ onceP x (k + 1) row ds cm ∧ isNs (onceO x k c) r ∧ r.n ≤ 128 ∧ m ≤ r.n ∧ Bring x.cs k ds cm ((onceO x k c).drop m) (k5 c) (runI x.cs (k + 1)).now ∧ (∀ t ∈ (runI x.cs (k + 1)).ts, t.n ∉ (onceO x k c).drop m)
theorem insT_nodup {t : Tmr} {ts : List Tmr} (h : (ts.map (·.n)).Nodup) (hn : ∀ u ∈ ts, u.n ≠ t.n) : ((insT t ts).map (·.n)).Nodup := by
  induction ts with
  | nil => simp [insT]
  | cons x r ih =>
    rw [List.map_cons, List.nodup_cons] at h
    by_cases hle : x.due ≤ t.due
    · rw [insT_le hle, List.map_cons, List.nodup_cons]
      refine ⟨fun hm => ?_, ih h.2 fun u hu => hn u (List.mem_cons_of_mem _ hu)⟩
      obtain ⟨u, hu, e⟩ := List.mem_map.1 hm
      rcases mem_insT.1 hu with rfl | hu
      · exact hn x (by simp) e.symm
      · exact h.1 (List.mem_map.2 ⟨u, hu, e⟩)
    · rw [insT_gt hle, List.map_cons, List.nodup_cons]
      refine ⟨fun hm => ?_, List.nodup_cons.2 h⟩
      obtain ⟨u, hu, e⟩ := List.mem_map.1 hm
      exact hn u hu e
theorem Due1.up {cs : List CallD} {k : Nat} {ds cm : List Int} {n e : Int} (h : Due1 cs k ds cm n e) : Due1 cs (k + 1) ds cm n e := by
  obtain ⟨j, h1, h2, h3⟩ := h
  exact ⟨j, h1, by omega, h3⟩
theorem filter_len (g : Tmr → Bool) (ts : List Tmr) : (ts.filter fun t => !g t).length + (ts.filter g).length = ts.length := by
  induction ts with
  | nil => rfl
  | cons x r ih =>
    cases h : g x with
    | true => rw [List.filter_cons_of_neg (by simp [h]), List.filter_cons_of_pos h, List.length_cons, List.length_cons]; omega
    | false => rw [List.filter_cons_of_pos (by simp [h]), List.filter_cons_of_neg (by simp [h]), List.length_cons, List.length_cons]; omega
theorem nodup_inj {ts : List Tmr} (h : (ts.map (·.n)).Nodup) {t u : Tmr} (ht : t ∈ ts) (hu : u ∈ ts) (e : t.n = u.n) : t = u := by
  induction ts with
  | nil => simp at ht
  | cons x r ih =>
    rw [List.map_cons, List.nodup_cons] at h
    rcases List.mem_cons.1 ht with e1 | ht'
    · rcases List.mem_cons.1 hu with e2 | hu'
      · rw [e1, e2]
      · exact absurd (List.mem_map.2 ⟨u, hu', by rw [← e, e1]⟩) h.1
    · rcases List.mem_cons.1 hu with e2 | hu'
      · exact absurd (List.mem_map.2 ⟨t, ht', by rw [e, e2]⟩) h.1
      · exact ih h.2 ht' hu'
theorem once_taken {cs : List CallD} {k : Nat} {ds cm : List Int} {s : Clk} {c : CallD} (h : Good cs k ds cm s.ts) (h0 : k5 c ≠ 0) :
    Good cs (k + 1) ds cm (stepT s c) ∧ Bring cs k ds cm (stepO s c) (k5 c) (stepN s c) ∧ (∀ t ∈ stepT s c, t.n ∉ stepO s c) ∧ (stepT s c).length + (stepO s c).length = s.ts.length := by
  have e0 : (k5 c == 0) = false := by simpa using h0
  have eT : stepT s c = stay (kG s c) s.ts := by unfold stepT; rw [e0]; rfl
  have eO : stepO s c = nts (kG s c) s.ts := by unfold stepO; rw [e0]; rfl
  obtain ⟨hn, hd, hz⟩ := h
  rw [eT, eO]
  refine ⟨⟨?_, fun t ht => (hd t (List.mem_filter.1 ht).1).up, fun j hj hl => hz j (by omega) hl⟩, ⟨?_, fun n hm => ?_⟩, fun t ht hm => ?_, ?_⟩
  · exact List.Nodup.sublist (List.Sublist.map _ List.filter_sublist) hn
  · exact List.Nodup.sublist (List.Sublist.map _ List.filter_sublist) hn
  · obtain ⟨u, hu, rfl⟩ := List.mem_map.1 hm
    obtain ⟨hu1, hu2⟩ := List.mem_filter.1 hu
    refine ⟨u.due, hd u hu1, fun h3 => ?_⟩
    have e1 : (k5 c == 1) = false := by rw [h3]; rfl
    have e2 : (k5 c == 2) = false := by rw [h3]; rfl
    have e3 : (k5 c == 3) = true := by rw [h3]; rfl
    have hg : tickG s.now c.by' u = true := by
      unfold kG at hu2; rw [e1, e2, e3] at hu2; exact hu2
    unfold tickG at hg
    have hN : stepN s c = tickNow s.now c.by' := by unfold stepN; rw [e3]; rfl
    rw [hN]
    unfold tickNow
    cases hd : decide (tickE s.now c.by' = 0) with
    | false => rw [hd] at hg; simp at hg
    | true => rw [hd] at hg; simpa using hg
  · obtain ⟨u, hu, e⟩ := List.mem_map.1 hm
    obtain ⟨hu1, hu2⟩ := List.mem_filter.1 hu
    obtain ⟨ht1, ht2⟩ := List.mem_filter.1 ht
    have := nodup_inj hn hu1 ht1 e
    subst this
    rw [hu2] at ht2; simp at ht2
  · unfold stay nts
    rw [List.length_map]
    exact filter_len _ _
theorem once_kept {cs : List CallD} {k : Nat} {ds cm : List Int} {s : Clk} {c : CallD} (h : Good cs k ds cm s.ts) (h0 : k5 c = 0) (he : setE s.ts c.dl ≠ 0) :
    Good cs (k + 1) ds cm (stepT s c) ∧ Bring cs k ds cm (stepO s c) (k5 c) (stepN s c) ∧ (∀ t ∈ stepT s c, t.n ∉ stepO s c) ∧ (stepT s c).length + (stepO s c).length = s.ts.length := by
  have e0 : (k5 c == 0) = true := by simpa using h0
  have eT : stepT s c = s.ts := by
    unfold stepT setTs; rw [e0, decide_eq_false he]; rfl
  have eO : stepO s c = [] := by unfold stepO; rw [e0]; rfl
  obtain ⟨hn, hd, hz⟩ := h
  rw [eT, eO]
  exact ⟨⟨hn, fun t ht => (hd t ht).up, fun j hj hl => hz j (by omega) hl⟩, ⟨List.nodup_nil, by simp⟩, by simp, rfl⟩
theorem once_set {cs : List CallD} {k : Nat} {ds cm : List Int} {s : Clk} {c : CallD} (h : Good cs k ds cm s.ts) (hk : k < cm.length) (hk2 : k < ds.length) (hc : cs[k]? = some c) (h0 : k5 c = 0) (he : setE s.ts c.dl = 0) :
    Good cs (k + 1) (ds.set k (s.now + c.dl)) cm (stepT s (c.at' k)) ∧ stepO s (c.at' k) = [] ∧ (stepT s (c.at' k)).length = s.ts.length + 1 ∧ stepN s (c.at' k) = s.now := by
  have e0 : (k5 (c.at' k) == 0) = true := by simpa using (show k5 (c.at' k) = 0 from h0)
  have e3 : (k5 (c.at' k) == 3) = false := by rw [show k5 (c.at' k) = 0 from h0]; rfl
  have eT : stepT s (c.at' k) = insT ⟨c.ow, c.id, s.now + c.dl, k⟩ s.ts := by
    unfold stepT setTs; rw [e0]; rw [show setE s.ts (c.at' k).dl = 0 from he]; rfl
  have eO : stepO s (c.at' k) = [] := by unfold stepO; rw [e0]; rfl
  have eN : stepN s (c.at' k) = s.now := by unfold stepN; rw [e3]; rfl
  obtain ⟨hn, hd, hz⟩ := h
  have hlt : ∀ u ∈ s.ts, ∃ j : Nat, u.n = j ∧ j < k := fun u hu => by obtain ⟨j, h1, h2, _⟩ := hd u hu; exact ⟨j, h1, h2⟩
  rw [eT, eO, eN]
  refine ⟨⟨insT_nodup hn fun u hu e => ?_, fun t ht => ?_, fun j hj hl => hz j (by omega) hl⟩, rfl, insT_length _ _, rfl⟩
  · obtain ⟨j, h1, h2⟩ := hlt u hu
    have e : u.n = (k : Int) := e
    omega
  · rcases mem_insT.1 ht with rfl | ht
    · exact ⟨k, rfl, by omega, ⟨c, hc, h0⟩, hz k (Nat.le_refl _) hk, by rw [List.getElem?_set_self hk2]⟩
    · obtain ⟨j, h1, h2, h3, h4, h5⟩ := hd t ht
      exact ⟨j, h1, by omega, h3, h4, by rw [List.getElem?_set_ne (by omega)]; exact h5⟩
theorem once_in {x : OnceX} {k : Nat} {c : CallD} {row : Row} {ds cm : List Int} {r : Row} {m : Nat} (h : onceQ x k c row ds cm r m) (hm : m < r.n) :
    ∃ j : Nat, (onceO x k c)[m]? = some (j : Int) ∧ j < k ∧ (∃ c', x.cs[j]? = some c' ∧ c'.kind.tmod 5 = 0) ∧ cm[j]? = some 0 ∧ (∃ e, ds[j]? = some e ∧ (k5 c = 3 → e ≤ (runI x.cs (k + 1)).now)) ∧ onceQ x k c row ds (cm.set j 1) r (m + 1) := by
  obtain ⟨hk, hc, ⟨p1, p2, p3, p4, p5, g1, g2, g3⟩, hr, hr128, hmr, ⟨b1, b2⟩, hdis⟩ := h
  have hml : m < (onceO x k c).length := by rw [← hr.2]; exact hm
  have hdrop : (onceO x k c).drop m = (onceO x k c)[m] :: (onceO x k c).drop (m + 1) := List.drop_eq_getElem_cons hml
  rw [hdrop] at b1 b2 hdis
  obtain ⟨e, ⟨j, ej, hjk, hc', hcm, hds⟩, he⟩ := b2 _ (List.mem_cons_self ..)
  rw [List.nodup_cons] at b1
  have hset : ∀ i : Nat, i ≠ j → (cm.set j 1)[i]? = cm[i]? := fun i hi => List.getElem?_set_ne (fun h => hi h.symm)
  refine ⟨j, by rw [List.getElem?_eq_getElem hml, ej], hjk, hc', hcm, ⟨e, hds, he⟩, hk, hc, ⟨p1, p2, p3, p4, by rw [List.length_set]; exact p5, g1, fun t ht => ?_, fun i hi hl => ?_⟩, hr, hr128, hm, ⟨b1.2, fun n hn => ?_⟩, fun t ht hmem => hdis t ht (List.mem_cons_of_mem _ hmem)⟩
  · obtain ⟨i, h1, h2, h3, h4, h5⟩ := g2 t ht
    have : i ≠ j := fun hij => hdis t ht (by rw [ej, h1, hij]; exact List.mem_cons_self ..)
    exact ⟨i, h1, h2, h3, by rw [hset i this]; exact h4, h5⟩
  · rw [hset i (by omega)]
    exact g3 i hi (by rwa [List.length_set] at hl)
  · obtain ⟨e', ⟨i, h1, h2, h3, h4, h5⟩, h6⟩ := b2 n (List.mem_cons_of_mem _ hn)
    have : i ≠ j := fun hij => b1.1 (by rw [ej, ← hij, ← h1]; exact hn)
    exact ⟨e', ⟨i, h1, h2, h3, by rw [hset i this]; exact h4, h5⟩, h6⟩
theorem once_mk {x : OnceX} {k : Nat} {c : CallD} {row : Row} {ds cm : List Int} {r : Row} (hk : k < x.n) (h300 : x.n ≤ 300) (hc : x.cs[k]? = some c) (hts : isTs (stepT (runI x.cs k) (c.at' k)) row) (hr : isNs (stepO (runI x.cs k) (c.at' k)) r)
    (hl : ds.length = x.n) (hl2 : cm.length = x.n) (hg : Good x.cs (k + 1) ds cm (stepT (runI x.cs k) (c.at' k))) (hb : Bring x.cs k ds cm (stepO (runI x.cs k) (c.at' k)) (k5 c) (stepN (runI x.cs k) (c.at' k)))
    (hdj : ∀ t ∈ stepT (runI x.cs k) (c.at' k), t.n ∉ stepO (runI x.cs k) (c.at' k)) (h128 : r.n ≤ 128) : onceQ x k c row ds cm r 0 := by
  unfold onceQ onceP
  rw [runI_succ hc]
  exact ⟨hk, hc, ⟨h300, hk, hts, hl, hl2, hg⟩, hr, h128, Nat.zero_le _, hb, hdj⟩
theorem runI_bnd (cs : List CallD) (k : Nat) : 0 ≤ (runI cs k).now ∧ (runI cs k).now ≤ 9007199254740992 := run_bnd _
theorem zeros_ints (n : Nat) : zeros [.int .i64 0] n = ints (List.replicate n 0) := by
  unfold zeros ints
  induction n with
  | zero => rfl
  | succ n ih => rw [List.replicate_succ, List.flatten_cons, ih]; rfl
theorem ints_set (l : List Int) (i : Nat) (v : Int) : (ints l).set i (.int .i64 v) = ints (l.set i v) := by unfold ints; rw [List.map_set]
theorem ints_getD {l : List Int} {i : Nat} {v : Int} (h : l[i]? = some v) : (ints l)[i]? = some (.int .i64 v) := by unfold ints; rw [List.getElem?_map, h]; rfl
def onceInv (x : OnceX) (F : Atom) : Nat → Option Inv := fun
  | 0 => some { X := OnceI, P := fun i => onceP x i.k i.row i.ds i.cm, mu := fun i => x.n - i.k, lv := fun i => [(0, .slice x.a x.n x.cap), (3, .pointer (some ⟨i.b, 0, none⟩)), (4, .slice (some ⟨i.bd, 0, none⟩) x.n x.n), (5, .slice (some ⟨i.bc, 0, none⟩) x.n x.n), (6, .int .i64 (runI x.cs i.k).ts.length), (24, .slice x.a x.n x.cap), (25, .int .i64 x.n), (26, .int .i64 i.k)], st := fun i => [F, clkA i.b (runI x.cs i.k).now i.row, i.row.A, .cells i.bd (ints i.ds) 2, .cells i.bc (ints i.cm) 3] }
  | 2 => some { X := OnceJ, P := fun i => onceQ x i.k i.c i.row i.ds i.cm i.r i.m, gh := some ⟨Nat, fun i => i.k⟩, mu := fun i => i.r.n - i.m, lv := fun i => [(0, .slice x.a x.n x.cap), (3, .pointer (some ⟨i.b, 0, none⟩)), (4, .slice (some ⟨i.bd, 0, none⟩) x.n x.n), (5, .slice (some ⟨i.bc, 0, none⟩) x.n x.n), (6, .int .i64 ((runI x.cs (i.k + 1)).ts.length + i.r.n - i.m)), (7, .int .i64 i.k), (8, .pointer (some ⟨i.b8, 0, none⟩)), (24, .slice x.a x.n x.cap), (25, .int .i64 x.n), (26, .int .i64 i.k), (56, .slice i.r.a i.r.n i.r.cap), (57, .int .i64 i.r.n), (58, .int .i64 i.m)], st := fun i => [F, clkA i.b (runI x.cs (i.k + 1)).now i.row, i.row.A, .cells i.bd (ints i.ds) 2, .cells i.bc (ints i.cm) 3, .cells i.b8 (i.c.at' i.k).enc 31, i.r.A] }
  | _ => none
def onceCut (x : OnceX) (F : Atom) : Nat → Option Inv := fun
  | 17 => some { X := OnceJ, P := fun i => onceQ x i.k i.c i.row i.ds i.cm i.r 0, gh := some ⟨Nat, fun i => i.k⟩, mu := fun _ => 0, lv := fun i => [(0, .slice x.a x.n x.cap), (3, .pointer (some ⟨i.b, 0, none⟩)), (4, .slice (some ⟨i.bd, 0, none⟩) x.n x.n), (5, .slice (some ⟨i.bc, 0, none⟩) x.n x.n), (6, .int .i64 ((runI x.cs (i.k + 1)).ts.length + i.r.n)), (7, .int .i64 i.k), (8, .pointer (some ⟨i.b8, 0, none⟩)), (9, .pointer (some ⟨i.b9, 0, none⟩)), (24, .slice x.a x.n x.cap), (25, .int .i64 x.n), (26, .int .i64 i.k)], st := fun i => [F, clkA i.b (runI x.cs (i.k + 1)).now i.row, i.row.A, .cells i.bd (ints i.ds) 2, .cells i.bc (ints i.cm) 3, .cells i.b8 (i.c.at' i.k).enc 31, i.r.A, .cells i.b9 [.slice i.r.a i.r.n i.r.cap, .int .i64 i.e] 34] }
  | _ => none
def onceOv (_x : OnceX) (_F : Atom) : List (Nat × Nat × OH) := [(1, 0, .c awakeC [] []), (5, 0, .c newC [] [100]), (6, 2, .o (mkC 2 [.int .i64 0] 8) [] [102]), (7, 2, .o (mkC 3 [.int .i64 0] 8) [] [103]), (11, 1, .qo (ixQ 6)), (11, 2, .q [.ex 0 (.int .u8), .ex 0 (.int .i64), .ex 0 .str, .ex 0 (.int .i64), .ex 0 (.int .i64), .ex 0 (.int .i64)]), (13, 2, .c playC [1, 2] [1, 2, 71]), (15, 3, .c nowC [1] [1]),
  (19, 0, .qo (ixQ 1)), (19, 1, .q [.ex 6 (.int .i64)]), (20, 10, .qo (ixQ 6)), (20, 12, .q [.ex 0 (.int .u8)]), (20, 34, .c nowC [1] [1]), (25, 1, .c timersC [1, 2] [1, 2, 91])]
noncomputable def once_H (x : Con.X onceC) (F : Atom) : Hints where
  op := hk ((onceOv x F) ++ [(11, 3, OH.n (12030 : Nat)),   (11, 5, OH.w [LH.atj (12030 : Nat), LH.atj (12030 : Nat), LH.atj (12030 : Nat), LH.atj (12030 : Nat), LH.atj (12030 : Nat), LH.atj (12030 : Nat)]),   (12, 2, OH.w [LH.atj (12030 : Nat)]),   (13, 1, OH.q [LH.atj (12030 : Nat), LH.atj (12030 : Nat), LH.atj (12030 : Nat), LH.atj (12030 : Nat), LH.atj (12030 : Nat), LH.atj (12030 : Nat)]),   (13, 3, OH.n (14030 : Nat)),   (13, 4, OH.w [LH.atj (14030 : Nat), LH.atj (14030 : Nat)]),   (14, 1, OH.q [LH.atj (12030 : Nat)]),   (17, 1, OH.q [LH.atj (7 : Nat)]),   (14, 6, OH.q [LH.atj (14030 : Nat)]),   (20, 20, OH.q [LH.ex (4 : Nat) (Shape.int IntKind.i64)]),   (15, 5, OH.q [LH.atj (12030 : Nat)]),   (20, 25, OH.q [LH.atj (5 : Nat)]),   (15, 8, OH.w [LH.ex (3 : Nat) Shape.any]),   (20, 32, OH.q [LH.ex (3 : Nat) (Shape.int IntKind.i64)]),   (22, 3, OH.q [LH.ex (4 : Nat) (Shape.int IntKind.i64)]),   (22, 6, OH.w [LH.ex (4 : Nat) Shape.any])])
  inv := onceInv x F
  cut := onceCut x F
  ord := (fun _ => [])
set_option maxRecDepth 100000 in
theorem once_vc (x : OnceX) (F : Atom) (hc : Con.cond onceC x) (hr : Con.rdc onceC x F) :
  FnOk Try.prog (7 : Nat) awakeC ∧
    true = true ∧
      ∃ (x_1 : Unit),
        ([] : List Value) = [] ∧
          ([] : List Atom) = [] ∧
            True ∧
              True ∧
                ∀ (y : Unit),
                  True →
                    Br (decide ((↑x.n : Int) > (300 : Int))) (Done onceC x F (Ending.returned (Value.bool true)) [((0 : Nat), F)])
                      (FnOk Try.prog (8 : Nat) newC ∧
                        true = true ∧
                          ∃ (x_2 : Unit),
                            ([] : List Value) = [] ∧
                              ([] : List Atom) = [] ∧
                                True ∧
                                  True ∧
                                    ∀ (y : Nat),
                                      True →
                                        OpOk Try.prog (opIn Try.f5 (6 : Nat) (2 : Nat)) (mkC (2 : TypeId) [Value.int IntKind.i64 (0 : Int)] (8 : Nat)) ∧
                                          true = true ∧
                                            ∃ (x_3 : MkX),
                                              [Value.int IntKind.i64 (↑x.n : Int), Value.int IntKind.i64 (↑x.n : Int)] = [Value.int IntKind.i64 x_3.n, Value.int IntKind.i64 x_3.c] ∧
                                                ([] : List Atom) = [] ∧
                                                  ((0 : Int) ≤ x_3.n ∧ x_3.n ≤ x_3.c ∧ x_3.c * (↑(8 : Nat) : Int) ≤ (281474976710656 : Int) ∧ x_3.c ≤ (9223372036854775807 : Int)) ∧
                                                    True ∧
                                                      ∀ (y_1 : Nat),
                                                        True →
                                                          OpOk Try.prog (opIn Try.f5 (7 : Nat) (2 : Nat)) (mkC (3 : TypeId) [Value.int IntKind.i64 (0 : Int)] (8 : Nat)) ∧
                                                            true = true ∧
                                                              ∃ (x_4 : MkX),
                                                                [Value.int IntKind.i64 (↑x.n : Int), Value.int IntKind.i64 (↑x.n : Int)] = [Value.int IntKind.i64 x_4.n, Value.int IntKind.i64 x_4.c] ∧
                                                                  ([] : List Atom) = [] ∧
                                                                    ((0 : Int) ≤ x_4.n ∧ x_4.n ≤ x_4.c ∧ x_4.c * (↑(8 : Nat) : Int) ≤ (281474976710656 : Int) ∧ x_4.c ≤ (9223372036854775807 : Int)) ∧
                                                                      True ∧
                                                                        ∀ (y_2 : Nat),
                                                                          True →
                                                                            (∃ (x_5 : OnceI),
                                                                                onceP x x_5.k x_5.row x_5.ds x_5.cm ∧
                                                                                  (Value.slice x.a x.n x.cap = Value.slice x.a x.n x.cap ∧ Value.pointer (some { block := y, off := (0 : Nat) }) = Value.pointer (some { block := x_5.b, off := (0 : Nat) }) ∧ Value.slice (some { block := y_1, off := (0 : Nat) }) x_3.n.toNat x_3.c.toNat = Value.slice (some { block := x_5.bd, off := (0 : Nat) }) x.n x.n ∧ Value.slice (some { block := y_2, off := (0 : Nat) }) x_4.n.toNat x_4.c.toNat = Value.slice (some { block := x_5.bc, off := (0 : Nat) }) x.n x.n ∧ Value.int IntKind.i64 (0 : Int) = Value.int IntKind.i64 (↑(runI x.cs x_5.k).ts.length : Int) ∧ Value.slice x.a x.n x.cap = Value.slice x.a x.n x.cap ∧ Value.int IntKind.i64 (↑x.n : Int) = Value.int IntKind.i64 (↑x.n : Int) ∧ Value.int IntKind.i64 (0 : Int) = Value.int IntKind.i64 (↑x_5.k : Int) ∧ True) ∧
                                                                                    Ent [((0 : Nat), F), ((100 : Nat), Atom.cells y [Value.int IntKind.i64 (0 : Int), Value.slice none (0 : Nat) (0 : Nat)] (59 : Nat)), ((102 : Nat), Atom.cells y_1 (zeros [Value.int IntKind.i64 (0 : Int)] x_3.c.toNat) (2 : Nat)), ((103 : Nat), Atom.cells y_2 (zeros [Value.int IntKind.i64 (0 : Int)] x_4.c.toNat) (3 : Nat))] [((0 : Nat), F), ((1 : Nat), Atom.cells x_5.b [Value.int IntKind.i64 (runI x.cs x_5.k).now, Value.slice x_5.row.a x_5.row.n x_5.row.cap] (59 : Nat)), ((2 : Nat), x_5.row.A), ((3 : Nat), Atom.cells x_5.bd (ints x_5.ds) (2 : Nat)), ((4 : Nat), Atom.cells x_5.bc (ints x_5.cm) (3 : Nat))]) ∧
                                                                              ∀ (x_5 : OnceI) (js : Nat → Value),
                                                                                onceP x x_5.k x_5.row x_5.ds x_5.cm →
                                                                                  Br (decide ((↑x_5.k : Int) < (↑x.n : Int)))
                                                                                    (QOpOk Try.prog (opIn Try.f5 (11 : Nat) (1 : Nat)) (ixQ (6 : Nat)) ∧
                                                                                      ∃ (x_6 : IxQX),
                                                                                        [Value.slice x.a x.n x.cap, Value.int IntKind.i64 (↑x_5.k : Int)] = [Value.slice (some { block := x_6.b, off := x_6.o }) x_6.len x_6.cap, Value.int IntKind.i64 x_6.n] ∧
                                                                                          ((0 : Int) ≤ x_6.n ∧ x_6.n < (↑x_6.len : Int)) ∧
                                                                                            ∃ (n : Int),
                                                                                              Look F { block := x_6.b, off := x_6.o + x_6.n.toNat * (6 : Nat) } (Value.int IntKind.u8 n) ∧
                                                                                                ∃ (n_1 : Int),
                                                                                                  Look F { block := x_6.b, off := x_6.o + x_6.n.toNat * (6 : Nat) + (1 : Nat) } (Value.int IntKind.i64 n_1) ∧
                                                                                                    ∃ (s : ByteArray),
                                                                                                      Look F { block := x_6.b, off := x_6.o + x_6.n.toNat * (6 : Nat) + (2 : Nat) } (Value.string s) ∧
                                                                                                        ∃ (n_2 : Int),
                                                                                                          Look F { block := x_6.b, off := x_6.o + x_6.n.toNat * (6 : Nat) + (3 : Nat) } (Value.int IntKind.i64 n_2) ∧
                                                                                                            ∃ (n_3 : Int),
                                                                                                              Look F { block := x_6.b, off := x_6.o + x_6.n.toNat * (6 : Nat) + (4 : Nat) } (Value.int IntKind.i64 n_3) ∧
                                                                                                                ∃ (n_4 : Int),
                                                                                                                  Look F { block := x_6.b, off := x_6.o + x_6.n.toNat * (6 : Nat) + (5 : Nat) } (Value.int IntKind.i64 n_4) ∧
                                                                                                                    ∀ (b : Nat),
                                                                                                                      Same { block := b, off := (0 : Nat) } b ∧
                                                                                                                        Same { block := b, off := (1 : Nat) } b ∧
                                                                                                                          Same { block := b, off := (2 : Nat) } b ∧
                                                                                                                            Same { block := b, off := (3 : Nat) } b ∧
                                                                                                                              Same { block := b, off := (4 : Nat) } b ∧
                                                                                                                                Same { block := b, off := (5 : Nat) } b ∧
                                                                                                                                  Same { block := b, off := (4 : Nat) } b ∧
                                                                                                                                    Same { block := b, off := (0 : Nat) } b ∧
                                                                                                                                      Same { block := b, off := (1 : Nat) } b ∧
                                                                                                                                        Same { block := b, off := (2 : Nat) } b ∧
                                                                                                                                          Same { block := b, off := (3 : Nat) } b ∧
                                                                                                                                            Same { block := b, off := (4 : Nat) } b ∧
                                                                                                                                              Same { block := b, off := (5 : Nat) } b ∧
                                                                                                                                                FnOk Try.prog (9 : Nat) playC ∧
                                                                                                                                                  true = true ∧
                                                                                                                                                    ∃ (x_7 : PlayX),
                                                                                                                                                      [Value.pointer (some { block := x_5.b, off := (0 : Nat) }), Value.agg { toList := [Value.int IntKind.u8 n, Value.int IntKind.i64 n_1, Value.string s, Value.int IntKind.i64 n_2, Value.int IntKind.i64 (↑x_5.k : Int), Value.int IntKind.i64 n_4] }] = [Value.pointer (some { block := x_7.b, off := (0 : Nat) }), Value.agg { toList := [Value.int IntKind.u8 x_7.c.kind, Value.int IntKind.i64 x_7.c.ow, Value.string x_7.c.id, Value.int IntKind.i64 x_7.c.dl, Value.int IntKind.i64 x_7.c.n, Value.int IntKind.i64 x_7.c.by'] }] ∧
                                                                                                                                                        [Atom.cells x_5.b [Value.int IntKind.i64 (runI x.cs x_5.k).now, Value.slice x_5.row.a x_5.row.n x_5.row.cap] (59 : Nat), x_5.row.A] = [Atom.cells x_7.b [Value.int IntKind.i64 x_7.s.now, Value.slice x_7.row.a x_7.row.n x_7.row.cap] (59 : Nat), x_7.row.A] ∧
                                                                                                                                                          (isTs x_7.s.ts x_7.row ∧ (0 : Int) ≤ x_7.s.now ∧ x_7.s.now ≤ (9007199254740992 : Int)) ∧
                                                                                                                                                            True ∧
                                                                                                                                                              ∀ (y : DfY),
                                                                                                                                                                isTs (stepT x_7.s x_7.c) y.row ∧ isNs (stepO x_7.s x_7.c) y.r →
                                                                                                                                                                  ∀ (b_1 : Nat),
                                                                                                                                                                    Same { block := b_1, off := (0 : Nat) } b_1 ∧
                                                                                                                                                                      Same { block := b_1, off := (1 : Nat) } b_1 ∧
                                                                                                                                                                        ∃ (n_5 : Nat),
                                                                                                                                                                          (Same { block := b, off := (0 : Nat) } b ∧
                                                                                                                                                                              (5 : Int) ≠ (0 : Int) ∧
                                                                                                                                                                                Br (n.tmod (5 : Int) == (0 : Int))
                                                                                                                                                                                  (Same { block := b_1, off := (1 : Nat) } b_1 ∧
                                                                                                                                                                                    Br (stepE x_7.s x_7.c == (0 : Int))
                                                                                                                                                                                      (true = true ∧
                                                                                                                                                                                        FnOk Try.prog (15 : Nat) nowC ∧
                                                                                                                                                                                          true = true ∧
                                                                                                                                                                                            ∃ (x_8 : ClkX),
                                                                                                                                                                                              [Value.pointer (some { block := x_5.b, off := (0 : Nat) })] = [Value.pointer (some { block := x_8.b, off := (0 : Nat) })] ∧
                                                                                                                                                                                                [Atom.cells x_7.b [Value.int IntKind.i64 (stepN x_7.s x_7.c), Value.slice y.row.a y.row.n y.row.cap] (59 : Nat)] = [Atom.cells x_8.b [Value.int IntKind.i64 x_8.now, Value.slice x_8.row.a x_8.row.n x_8.row.cap] (59 : Nat)] ∧
                                                                                                                                                                                                  True ∧
                                                                                                                                                                                                    True ∧
                                                                                                                                                                                                      ∀ (y_3 : Unit),
                                                                                                                                                                                                        True →
                                                                                                                                                                                                          Same { block := b, off := (3 : Nat) } b ∧
                                                                                                                                                                                                            ((-9223372036854775808 : Int) ≤ x_8.now + n_2 ∧ x_8.now + n_2 ≤ (9223372036854775807 : Int)) ∧
                                                                                                                                                                                                              ((0 : Int) ≤ (↑x_5.k : Int) ∧ (↑x_5.k : Int) < (↑x.n : Int)) ∧
                                                                                                                                                                                                                (Same { block := x_5.bd, off := (0 : Nat) + (↑x_5.k : Int).toNat * (1 : Nat) } x_5.bd ∧ (0 : Nat) + (↑x_5.k : Int).toNat * (1 : Nat) < (ints x_5.ds).length) ∧
                                                                                                                                                                                                                  ((-9223372036854775808 : Int) ≤ (↑(runI x.cs x_5.k).ts.length : Int) + (1 : Int) ∧ (↑(runI x.cs x_5.k).ts.length : Int) + (1 : Int) ≤ (9223372036854775807 : Int)) ∧
                                                                                                                                                                                                                    ∃ (x_9 : OnceJ),
                                                                                                                                                                                                                      (onceQ x x_9.k x_9.c x_9.row x_9.ds x_9.cm x_9.r (0 : Nat) ∧ x_9.k = n_5) ∧
                                                                                                                                                                                                                        (Value.slice x.a x.n x.cap = Value.slice x.a x.n x.cap ∧
                                                                                                                                                                                                                            Value.pointer (some { block := x_5.b, off := (0 : Nat) }) = Value.pointer (some { block := x_9.b, off := (0 : Nat) }) ∧
                                                                                                                                                                                                                              Value.slice (some { block := x_5.bd, off := (0 : Nat) }) x.n x.n = Value.slice (some { block := x_9.bd, off := (0 : Nat) }) x.n x.n ∧
                                                                                                                                                                                                                                Value.slice (some { block := x_5.bc, off := (0 : Nat) }) x.n x.n = Value.slice (some { block := x_9.bc, off := (0 : Nat) }) x.n x.n ∧
                                                                                                                                                                                                                                  Value.int IntKind.i64 ((↑(runI x.cs x_5.k).ts.length : Int) + (1 : Int)) = Value.int IntKind.i64 ((↑(runI x.cs (x_9.k + (1 : Nat))).ts.length : Int) + (↑x_9.r.n : Int)) ∧ Value.int IntKind.i64 (↑x_5.k : Int) = Value.int IntKind.i64 (↑x_9.k : Int) ∧ Value.pointer (some { block := b, off := (0 : Nat) }) = Value.pointer (some { block := x_9.b8, off := (0 : Nat) }) ∧ Value.pointer (some { block := b_1, off := (0 : Nat) }) = Value.pointer (some { block := x_9.b9, off := (0 : Nat) }) ∧ Value.slice x.a x.n x.cap = Value.slice x.a x.n x.cap ∧ Value.int IntKind.i64 (↑x.n : Int) = Value.int IntKind.i64 (↑x.n : Int) ∧ Value.int IntKind.i64 (↑x_5.k : Int) = Value.int IntKind.i64 (↑x_9.k : Int) ∧ True) ∧
                                                                                                                                                                                                                          Ent [((0 : Nat), F), ((1 : Nat), Atom.cells x_8.b [Value.int IntKind.i64 x_8.now, Value.slice x_8.row.a x_8.row.n x_8.row.cap] (59 : Nat)), ((2 : Nat), y.row.A), ((3 : Nat), Atom.cells x_5.bd ((ints x_5.ds).set ((0 : Nat) + (↑x_5.k : Int).toNat * (1 : Nat)) (Value.int IntKind.i64 (x_8.now + n_2))) (2 : Nat)), ((4 : Nat), Atom.cells x_5.bc (ints x_5.cm) (3 : Nat)), ((71 : Nat), y.r.A), ((12030 : Nat), Atom.cells b [Value.int IntKind.u8 n, Value.int IntKind.i64 n_1, Value.string s, Value.int IntKind.i64 n_2, Value.int IntKind.i64 (↑x_5.k : Int), Value.int IntKind.i64 n_4] (31 : Nat)), ((14030 : Nat), Atom.cells b_1 [Value.slice y.r.a y.r.n y.r.cap, Value.int IntKind.i64 (stepE x_7.s x_7.c)] (34 : Nat))]
                                                                                                                                                                                                                            [((0 : Nat), F), ((1 : Nat), Atom.cells x_9.b [Value.int IntKind.i64 (runI x.cs (x_9.k + (1 : Nat))).now, Value.slice x_9.row.a x_9.row.n x_9.row.cap] (59 : Nat)), ((2 : Nat), x_9.row.A), ((3 : Nat), Atom.cells x_9.bd (ints x_9.ds) (2 : Nat)), ((4 : Nat), Atom.cells x_9.bc (ints x_9.cm) (3 : Nat)), ((5 : Nat), Atom.cells x_9.b8 [Value.int IntKind.u8 (x_9.c.at' x_9.k).kind, Value.int IntKind.i64 (x_9.c.at' x_9.k).ow, Value.string (x_9.c.at' x_9.k).id, Value.int IntKind.i64 (x_9.c.at' x_9.k).dl, Value.int IntKind.i64 (x_9.c.at' x_9.k).n, Value.int IntKind.i64 (x_9.c.at' x_9.k).by'] (31 : Nat)), ((6 : Nat), x_9.r.A), ((7 : Nat), Atom.cells x_9.b9 [Value.slice x_9.r.a x_9.r.n x_9.r.cap, Value.int IntKind.i64 x_9.e] (34 : Nat))])
                                                                                                                                                                                      (∃ (x_8 : OnceJ),
                                                                                                                                                                                        (onceQ x x_8.k x_8.c x_8.row x_8.ds x_8.cm x_8.r (0 : Nat) ∧ x_8.k = n_5) ∧
                                                                                                                                                                                          (Value.slice x.a x.n x.cap = Value.slice x.a x.n x.cap ∧
                                                                                                                                                                                              Value.pointer (some { block := x_5.b, off := (0 : Nat) }) = Value.pointer (some { block := x_8.b, off := (0 : Nat) }) ∧
                                                                                                                                                                                                Value.slice (some { block := x_5.bd, off := (0 : Nat) }) x.n x.n = Value.slice (some { block := x_8.bd, off := (0 : Nat) }) x.n x.n ∧
                                                                                                                                                                                                  Value.slice (some { block := x_5.bc, off := (0 : Nat) }) x.n x.n = Value.slice (some { block := x_8.bc, off := (0 : Nat) }) x.n x.n ∧
                                                                                                                                                                                                    Value.int IntKind.i64 (↑(runI x.cs x_5.k).ts.length : Int) = Value.int IntKind.i64 ((↑(runI x.cs (x_8.k + (1 : Nat))).ts.length : Int) + (↑x_8.r.n : Int)) ∧ Value.int IntKind.i64 (↑x_5.k : Int) = Value.int IntKind.i64 (↑x_8.k : Int) ∧ Value.pointer (some { block := b, off := (0 : Nat) }) = Value.pointer (some { block := x_8.b8, off := (0 : Nat) }) ∧ Value.pointer (some { block := b_1, off := (0 : Nat) }) = Value.pointer (some { block := x_8.b9, off := (0 : Nat) }) ∧ Value.slice x.a x.n x.cap = Value.slice x.a x.n x.cap ∧ Value.int IntKind.i64 (↑x.n : Int) = Value.int IntKind.i64 (↑x.n : Int) ∧ Value.int IntKind.i64 (↑x_5.k : Int) = Value.int IntKind.i64 (↑x_8.k : Int) ∧ True) ∧
                                                                                                                                                                                            Ent [((0 : Nat), F), ((1 : Nat), Atom.cells x_7.b [Value.int IntKind.i64 (stepN x_7.s x_7.c), Value.slice y.row.a y.row.n y.row.cap] (59 : Nat)), ((2 : Nat), y.row.A), ((3 : Nat), Atom.cells x_5.bd (ints x_5.ds) (2 : Nat)), ((4 : Nat), Atom.cells x_5.bc (ints x_5.cm) (3 : Nat)), ((71 : Nat), y.r.A), ((12030 : Nat), Atom.cells b [Value.int IntKind.u8 n, Value.int IntKind.i64 n_1, Value.string s, Value.int IntKind.i64 n_2, Value.int IntKind.i64 (↑x_5.k : Int), Value.int IntKind.i64 n_4] (31 : Nat)), ((14030 : Nat), Atom.cells b_1 [Value.slice y.r.a y.r.n y.r.cap, Value.int IntKind.i64 (stepE x_7.s x_7.c)] (34 : Nat))]
                                                                                                                                                                                              [((0 : Nat), F), ((1 : Nat), Atom.cells x_8.b [Value.int IntKind.i64 (runI x.cs (x_8.k + (1 : Nat))).now, Value.slice x_8.row.a x_8.row.n x_8.row.cap] (59 : Nat)), ((2 : Nat), x_8.row.A), ((3 : Nat), Atom.cells x_8.bd (ints x_8.ds) (2 : Nat)), ((4 : Nat), Atom.cells x_8.bc (ints x_8.cm) (3 : Nat)), ((5 : Nat), Atom.cells x_8.b8 [Value.int IntKind.u8 (x_8.c.at' x_8.k).kind, Value.int IntKind.i64 (x_8.c.at' x_8.k).ow, Value.string (x_8.c.at' x_8.k).id, Value.int IntKind.i64 (x_8.c.at' x_8.k).dl, Value.int IntKind.i64 (x_8.c.at' x_8.k).n, Value.int IntKind.i64 (x_8.c.at' x_8.k).by'] (31 : Nat)), ((6 : Nat), x_8.r.A), ((7 : Nat), Atom.cells x_8.b9 [Value.slice x_8.r.a x_8.r.n x_8.r.cap, Value.int IntKind.i64 x_8.e] (34 : Nat))]))
                                                                                                                                                                                  (∃ (x_8 : OnceJ),
                                                                                                                                                                                    (onceQ x x_8.k x_8.c x_8.row x_8.ds x_8.cm x_8.r (0 : Nat) ∧ x_8.k = n_5) ∧
                                                                                                                                                                                      (Value.slice x.a x.n x.cap = Value.slice x.a x.n x.cap ∧
                                                                                                                                                                                          Value.pointer (some { block := x_5.b, off := (0 : Nat) }) = Value.pointer (some { block := x_8.b, off := (0 : Nat) }) ∧
                                                                                                                                                                                            Value.slice (some { block := x_5.bd, off := (0 : Nat) }) x.n x.n = Value.slice (some { block := x_8.bd, off := (0 : Nat) }) x.n x.n ∧
                                                                                                                                                                                              Value.slice (some { block := x_5.bc, off := (0 : Nat) }) x.n x.n = Value.slice (some { block := x_8.bc, off := (0 : Nat) }) x.n x.n ∧
                                                                                                                                                                                                Value.int IntKind.i64 (↑(runI x.cs x_5.k).ts.length : Int) = Value.int IntKind.i64 ((↑(runI x.cs (x_8.k + (1 : Nat))).ts.length : Int) + (↑x_8.r.n : Int)) ∧ Value.int IntKind.i64 (↑x_5.k : Int) = Value.int IntKind.i64 (↑x_8.k : Int) ∧ Value.pointer (some { block := b, off := (0 : Nat) }) = Value.pointer (some { block := x_8.b8, off := (0 : Nat) }) ∧ Value.pointer (some { block := b_1, off := (0 : Nat) }) = Value.pointer (some { block := x_8.b9, off := (0 : Nat) }) ∧ Value.slice x.a x.n x.cap = Value.slice x.a x.n x.cap ∧ Value.int IntKind.i64 (↑x.n : Int) = Value.int IntKind.i64 (↑x.n : Int) ∧ Value.int IntKind.i64 (↑x_5.k : Int) = Value.int IntKind.i64 (↑x_8.k : Int) ∧ True) ∧
                                                                                                                                                                                        Ent [((0 : Nat), F), ((1 : Nat), Atom.cells x_7.b [Value.int IntKind.i64 (stepN x_7.s x_7.c), Value.slice y.row.a y.row.n y.row.cap] (59 : Nat)), ((2 : Nat), y.row.A), ((3 : Nat), Atom.cells x_5.bd (ints x_5.ds) (2 : Nat)), ((4 : Nat), Atom.cells x_5.bc (ints x_5.cm) (3 : Nat)), ((71 : Nat), y.r.A), ((12030 : Nat), Atom.cells b [Value.int IntKind.u8 n, Value.int IntKind.i64 n_1, Value.string s, Value.int IntKind.i64 n_2, Value.int IntKind.i64 (↑x_5.k : Int), Value.int IntKind.i64 n_4] (31 : Nat)), ((14030 : Nat), Atom.cells b_1 [Value.slice y.r.a y.r.n y.r.cap, Value.int IntKind.i64 (stepE x_7.s x_7.c)] (34 : Nat))]
                                                                                                                                                                                          [((0 : Nat), F), ((1 : Nat), Atom.cells x_8.b [Value.int IntKind.i64 (runI x.cs (x_8.k + (1 : Nat))).now, Value.slice x_8.row.a x_8.row.n x_8.row.cap] (59 : Nat)), ((2 : Nat), x_8.row.A), ((3 : Nat), Atom.cells x_8.bd (ints x_8.ds) (2 : Nat)), ((4 : Nat), Atom.cells x_8.bc (ints x_8.cm) (3 : Nat)), ((5 : Nat), Atom.cells x_8.b8 [Value.int IntKind.u8 (x_8.c.at' x_8.k).kind, Value.int IntKind.i64 (x_8.c.at' x_8.k).ow, Value.string (x_8.c.at' x_8.k).id, Value.int IntKind.i64 (x_8.c.at' x_8.k).dl, Value.int IntKind.i64 (x_8.c.at' x_8.k).n, Value.int IntKind.i64 (x_8.c.at' x_8.k).by'] (31 : Nat)), ((6 : Nat), x_8.r.A), ((7 : Nat), Atom.cells x_8.b9 [Value.slice x_8.r.a x_8.r.n x_8.r.cap, Value.int IntKind.i64 x_8.e] (34 : Nat))])) ∧
                                                                                                                                                                            ∀ (x_8 : OnceJ) (js : Nat → Value),
                                                                                                                                                                              onceQ x x_8.k x_8.c x_8.row x_8.ds x_8.cm x_8.r (0 : Nat) ∧ x_8.k = n_5 →
                                                                                                                                                                                Same { block := x_8.b9, off := (0 : Nat) } x_8.b9 ∧
                                                                                                                                                                                  ∃ (n : Nat),
                                                                                                                                                                                    (∃ (x_9 : OnceJ),
                                                                                                                                                                                        (onceQ x x_9.k x_9.c x_9.row x_9.ds x_9.cm x_9.r x_9.m ∧ x_9.k = n) ∧
                                                                                                                                                                                          (Value.slice x.a x.n x.cap = Value.slice x.a x.n x.cap ∧
                                                                                                                                                                                              Value.pointer (some { block := x_8.b, off := (0 : Nat) }) = Value.pointer (some { block := x_9.b, off := (0 : Nat) }) ∧
                                                                                                                                                                                                Value.slice (some { block := x_8.bd, off := (0 : Nat) }) x.n x.n = Value.slice (some { block := x_9.bd, off := (0 : Nat) }) x.n x.n ∧
                                                                                                                                                                                                  Value.slice (some { block := x_8.bc, off := (0 : Nat) }) x.n x.n = Value.slice (some { block := x_9.bc, off := (0 : Nat) }) x.n x.n ∧
                                                                                                                                                                                                    Value.int IntKind.i64 ((↑(runI x.cs (x_8.k + (1 : Nat))).ts.length : Int) + (↑x_8.r.n : Int)) = Value.int IntKind.i64 ((↑(runI x.cs (x_9.k + (1 : Nat))).ts.length : Int) + (↑x_9.r.n : Int) - (↑x_9.m : Int)) ∧
                                                                                                                                                                                                      Value.int IntKind.i64 (↑x_8.k : Int) = Value.int IntKind.i64 (↑x_9.k : Int) ∧ Value.pointer (some { block := x_8.b8, off := (0 : Nat) }) = Value.pointer (some { block := x_9.b8, off := (0 : Nat) }) ∧ Value.slice x.a x.n x.cap = Value.slice x.a x.n x.cap ∧ Value.int IntKind.i64 (↑x.n : Int) = Value.int IntKind.i64 (↑x.n : Int) ∧ Value.int IntKind.i64 (↑x_8.k : Int) = Value.int IntKind.i64 (↑x_9.k : Int) ∧ Value.slice x_8.r.a x_8.r.n x_8.r.cap = Value.slice x_9.r.a x_9.r.n x_9.r.cap ∧ Value.int IntKind.i64 (↑x_8.r.n : Int) = Value.int IntKind.i64 (↑x_9.r.n : Int) ∧ Value.int IntKind.i64 (0 : Int) = Value.int IntKind.i64 (↑x_9.m : Int) ∧ True) ∧
                                                                                                                                                                                            Ent [((0 : Nat), F), ((1 : Nat), Atom.cells x_8.b [Value.int IntKind.i64 (runI x.cs (x_8.k + (1 : Nat))).now, Value.slice x_8.row.a x_8.row.n x_8.row.cap] (59 : Nat)), ((2 : Nat), x_8.row.A), ((3 : Nat), Atom.cells x_8.bd (ints x_8.ds) (2 : Nat)), ((4 : Nat), Atom.cells x_8.bc (ints x_8.cm) (3 : Nat)), ((5 : Nat), Atom.cells x_8.b8 [Value.int IntKind.u8 (x_8.c.at' x_8.k).kind, Value.int IntKind.i64 (x_8.c.at' x_8.k).ow, Value.string (x_8.c.at' x_8.k).id, Value.int IntKind.i64 (x_8.c.at' x_8.k).dl, Value.int IntKind.i64 (x_8.c.at' x_8.k).n, Value.int IntKind.i64 (x_8.c.at' x_8.k).by'] (31 : Nat)), ((6 : Nat), x_8.r.A), ((7 : Nat), Atom.cells x_8.b9 [Value.slice x_8.r.a x_8.r.n x_8.r.cap, Value.int IntKind.i64 x_8.e] (34 : Nat))]
                                                                                                                                                                                              [((0 : Nat), F), ((1 : Nat), Atom.cells x_9.b [Value.int IntKind.i64 (runI x.cs (x_9.k + (1 : Nat))).now, Value.slice x_9.row.a x_9.row.n x_9.row.cap] (59 : Nat)), ((2 : Nat), x_9.row.A), ((3 : Nat), Atom.cells x_9.bd (ints x_9.ds) (2 : Nat)), ((4 : Nat), Atom.cells x_9.bc (ints x_9.cm) (3 : Nat)), ((5 : Nat), Atom.cells x_9.b8 [Value.int IntKind.u8 (x_9.c.at' x_9.k).kind, Value.int IntKind.i64 (x_9.c.at' x_9.k).ow, Value.string (x_9.c.at' x_9.k).id, Value.int IntKind.i64 (x_9.c.at' x_9.k).dl, Value.int IntKind.i64 (x_9.c.at' x_9.k).n, Value.int IntKind.i64 (x_9.c.at' x_9.k).by'] (31 : Nat)), ((6 : Nat), x_9.r.A)]) ∧
                                                                                                                                                                                      ∀ (x_9 : OnceJ) (js : Nat → Value),
                                                                                                                                                                                        onceQ x x_9.k x_9.c x_9.row x_9.ds x_9.cm x_9.r x_9.m ∧ x_9.k = n →
                                                                                                                                                                                          Br (decide ((↑x_9.m : Int) < (↑x_9.r.n : Int)))
                                                                                                                                                                                            (QOpOk Try.prog (opIn Try.f5 (19 : Nat) (0 : Nat)) (ixQ (1 : Nat)) ∧
                                                                                                                                                                                              ∃ (x_10 : IxQX),
                                                                                                                                                                                                [Value.slice x_9.r.a x_9.r.n x_9.r.cap, Value.int IntKind.i64 (↑x_9.m : Int)] = [Value.slice (some { block := x_10.b, off := x_10.o }) x_10.len x_10.cap, Value.int IntKind.i64 x_10.n] ∧
                                                                                                                                                                                                  ((0 : Int) ≤ x_10.n ∧ x_10.n < (↑x_10.len : Int)) ∧
                                                                                                                                                                                                    ∃ (n_6 : Int),
                                                                                                                                                                                                      Look x_9.r.A { block := x_10.b, off := x_10.o + x_10.n.toNat * (1 : Nat) } (Value.int IntKind.i64 n_6) ∧
                                                                                                                                                                                                        true = true ∧
                                                                                                                                                                                                          Br (decide (n_6 < (0 : Int))) False
                                                                                                                                                                                                            (Br (decide (n_6 ≥ (↑x_9.k : Int))) False
                                                                                                                                                                                                              (QOpOk Try.prog (opIn Try.f5 (20 : Nat) (10 : Nat)) (ixQ (6 : Nat)) ∧
                                                                                                                                                                                                                ∃ (x_11 : IxQX),
                                                                                                                                                                                                                  [Value.slice x.a x.n x.cap, Value.int IntKind.i64 n_6] = [Value.slice (some { block := x_11.b, off := x_11.o }) x_11.len x_11.cap, Value.int IntKind.i64 x_11.n] ∧
                                                                                                                                                                                                                    ((0 : Int) ≤ x_11.n ∧ x_11.n < (↑x_11.len : Int)) ∧
                                                                                                                                                                                                                      ∃ (n_7 : Int),
                                                                                                                                                                                                                        Look F { block := x_11.b, off := x_11.o + x_11.n.toNat * (6 : Nat) } (Value.int IntKind.u8 n_7) ∧
                                                                                                                                                                                                                          (5 : Int) ≠ (0 : Int) ∧
                                                                                                                                                                                                                            Br (n_7.tmod (5 : Int) != (0 : Int)) False
                                                                                                                                                                                                                              (((0 : Int) ≤ n_6 ∧ n_6 < (↑x.n : Int)) ∧
                                                                                                                                                                                                                                ∃ (n_8 : Int),
                                                                                                                                                                                                                                  Look (Atom.cells x_9.bc (ints x_9.cm) (3 : Nat)) { block := x_9.bc, off := (0 : Nat) + n_6.toNat * (1 : Nat) } (Value.int IntKind.i64 n_8) ∧
                                                                                                                                                                                                                                    Br (decide (n_8 > (0 : Int))) False
                                                                                                                                                                                                                                      (Same { block := x_9.b8, off := (0 : Nat) } x_9.b8 ∧
                                                                                                                                                                                                                                        (5 : Int) ≠ (0 : Int) ∧
                                                                                                                                                                                                                                          Br ((x_9.c.at' x_9.k).kind.tmod (5 : Int) == (3 : Int))
                                                                                                                                                                                                                                            (((0 : Int) ≤ n_6 ∧ n_6 < (↑x.n : Int)) ∧
                                                                                                                                                                                                                                              ∃ (n_9 : Int),
                                                                                                                                                                                                                                                Look (Atom.cells x_9.bd (ints x_9.ds) (2 : Nat)) { block := x_9.bd, off := (0 : Nat) + n_6.toNat * (1 : Nat) } (Value.int IntKind.i64 n_9) ∧
                                                                                                                                                                                                                                                  FnOk Try.prog (15 : Nat) nowC ∧
                                                                                                                                                                                                                                                    true = true ∧
                                                                                                                                                                                                                                                      ∃ (x_12 : ClkX),
                                                                                                                                                                                                                                                        [Value.pointer (some { block := x_9.b, off := (0 : Nat) })] = [Value.pointer (some { block := x_12.b, off := (0 : Nat) })] ∧
                                                                                                                                                                                                                                                          [Atom.cells x_9.b [Value.int IntKind.i64 (runI x.cs (x_9.k + (1 : Nat))).now, Value.slice x_9.row.a x_9.row.n x_9.row.cap] (59 : Nat)] = [Atom.cells x_12.b [Value.int IntKind.i64 x_12.now, Value.slice x_12.row.a x_12.row.n x_12.row.cap] (59 : Nat)] ∧
                                                                                                                                                                                                                                                            True ∧
                                                                                                                                                                                                                                                              True ∧
                                                                                                                                                                                                                                                                ∀ (y : Unit),
                                                                                                                                                                                                                                                                  True →
                                                                                                                                                                                                                                                                    Br (decide (n_9 > x_12.now)) (Done onceC x F (Ending.returned (Value.bool false)) [((0 : Nat), F), ((1 : Nat), Atom.cells x_12.b [Value.int IntKind.i64 x_12.now, Value.slice x_12.row.a x_12.row.n x_12.row.cap] (59 : Nat)), ((2 : Nat), x_9.row.A), ((3 : Nat), Atom.cells x_9.bd (ints x_9.ds) (2 : Nat)), ((4 : Nat), Atom.cells x_9.bc (ints x_9.cm) (3 : Nat)), ((5 : Nat), Atom.cells x_9.b8 [Value.int IntKind.u8 (x_9.c.at' x_9.k).kind, Value.int IntKind.i64 (x_9.c.at' x_9.k).ow, Value.string (x_9.c.at' x_9.k).id, Value.int IntKind.i64 (x_9.c.at' x_9.k).dl, Value.int IntKind.i64 (x_9.c.at' x_9.k).n, Value.int IntKind.i64 (x_9.c.at' x_9.k).by'] (31 : Nat)), ((6 : Nat), x_9.r.A)])
                                                                                                                                                                                                                                                                      (((0 : Int) ≤ n_6 ∧ n_6 < (↑x.n : Int)) ∧
                                                                                                                                                                                                                                                                        ∃ (n_10 : Int),
                                                                                                                                                                                                                                                                          Look (Atom.cells x_9.bc (ints x_9.cm) (3 : Nat)) { block := x_9.bc, off := (0 : Nat) + n_6.toNat * (1 : Nat) } (Value.int IntKind.i64 n_10) ∧
                                                                                                                                                                                                                                                                            ((-9223372036854775808 : Int) ≤ n_10 + (1 : Int) ∧ n_10 + (1 : Int) ≤ (9223372036854775807 : Int)) ∧
                                                                                                                                                                                                                                                                              ((0 : Int) ≤ n_6 ∧ n_6 < (↑x.n : Int)) ∧
                                                                                                                                                                                                                                                                                (Same { block := x_9.bc, off := (0 : Nat) + n_6.toNat * (1 : Nat) } x_9.bc ∧ (0 : Nat) + n_6.toNat * (1 : Nat) < (ints x_9.cm).length) ∧
                                                                                                                                                                                                                                                                                  ((-9223372036854775808 : Int) ≤ (↑(runI x.cs (x_9.k + (1 : Nat))).ts.length : Int) + (↑x_9.r.n : Int) - (↑x_9.m : Int) - (1 : Int) ∧ (↑(runI x.cs (x_9.k + (1 : Nat))).ts.length : Int) + (↑x_9.r.n : Int) - (↑x_9.m : Int) - (1 : Int) ≤ (9223372036854775807 : Int)) ∧
                                                                                                                                                                                                                                                                                    ((-9223372036854775808 : Int) ≤ (↑x_9.m : Int) + (1 : Int) ∧ (↑x_9.m : Int) + (1 : Int) ≤ (9223372036854775807 : Int)) ∧
                                                                                                                                                                                                                                                                                      ∃ (y : OnceJ),
                                                                                                                                                                                                                                                                                        (onceQ x y.k y.c y.row y.ds y.cm y.r y.m ∧ y.k = n) ∧
                                                                                                                                                                                                                                                                                          (Value.slice x.a x.n x.cap = Value.slice x.a x.n x.cap ∧
                                                                                                                                                                                                                                                                                              Value.pointer (some { block := x_9.b, off := (0 : Nat) }) = Value.pointer (some { block := y.b, off := (0 : Nat) }) ∧
                                                                                                                                                                                                                                                                                                Value.slice (some { block := x_9.bd, off := (0 : Nat) }) x.n x.n = Value.slice (some { block := y.bd, off := (0 : Nat) }) x.n x.n ∧
                                                                                                                                                                                                                                                                                                  Value.slice (some { block := x_9.bc, off := (0 : Nat) }) x.n x.n = Value.slice (some { block := y.bc, off := (0 : Nat) }) x.n x.n ∧
                                                                                                                                                                                                                                                                                                    Value.int IntKind.i64 ((↑(runI x.cs (x_9.k + (1 : Nat))).ts.length : Int) + (↑x_9.r.n : Int) - (↑x_9.m : Int) - (1 : Int)) = Value.int IntKind.i64 ((↑(runI x.cs (y.k + (1 : Nat))).ts.length : Int) + (↑y.r.n : Int) - (↑y.m : Int)) ∧
                                                                                                                                                                                                                                                                                                      Value.int IntKind.i64 (↑x_9.k : Int) = Value.int IntKind.i64 (↑y.k : Int) ∧ Value.pointer (some { block := x_9.b8, off := (0 : Nat) }) = Value.pointer (some { block := y.b8, off := (0 : Nat) }) ∧ Value.slice x.a x.n x.cap = Value.slice x.a x.n x.cap ∧ Value.int IntKind.i64 (↑x.n : Int) = Value.int IntKind.i64 (↑x.n : Int) ∧ Value.int IntKind.i64 (↑x_9.k : Int) = Value.int IntKind.i64 (↑y.k : Int) ∧ Value.slice x_9.r.a x_9.r.n x_9.r.cap = Value.slice y.r.a y.r.n y.r.cap ∧ Value.int IntKind.i64 (↑x_9.r.n : Int) = Value.int IntKind.i64 (↑y.r.n : Int) ∧ Value.int IntKind.i64 ((↑x_9.m : Int) + (1 : Int)) = Value.int IntKind.i64 (↑y.m : Int) ∧ True) ∧
                                                                                                                                                                                                                                                                                            Ent [((0 : Nat), F), ((1 : Nat), Atom.cells x_12.b [Value.int IntKind.i64 x_12.now, Value.slice x_12.row.a x_12.row.n x_12.row.cap] (59 : Nat)), ((2 : Nat), x_9.row.A), ((3 : Nat), Atom.cells x_9.bd (ints x_9.ds) (2 : Nat)), ((4 : Nat), Atom.cells x_9.bc ((ints x_9.cm).set ((0 : Nat) + n_6.toNat * (1 : Nat)) (Value.int IntKind.i64 (n_10 + (1 : Int)))) (3 : Nat)), ((5 : Nat), Atom.cells x_9.b8 [Value.int IntKind.u8 (x_9.c.at' x_9.k).kind, Value.int IntKind.i64 (x_9.c.at' x_9.k).ow, Value.string (x_9.c.at' x_9.k).id, Value.int IntKind.i64 (x_9.c.at' x_9.k).dl, Value.int IntKind.i64 (x_9.c.at' x_9.k).n, Value.int IntKind.i64 (x_9.c.at' x_9.k).by'] (31 : Nat)), ((6 : Nat), x_9.r.A)]
                                                                                                                                                                                                                                                                                                [((0 : Nat), F), ((1 : Nat), Atom.cells y.b [Value.int IntKind.i64 (runI x.cs (y.k + (1 : Nat))).now, Value.slice y.row.a y.row.n y.row.cap] (59 : Nat)), ((2 : Nat), y.row.A), ((3 : Nat), Atom.cells y.bd (ints y.ds) (2 : Nat)), ((4 : Nat), Atom.cells y.bc (ints y.cm) (3 : Nat)), ((5 : Nat), Atom.cells y.b8 [Value.int IntKind.u8 (y.c.at' y.k).kind, Value.int IntKind.i64 (y.c.at' y.k).ow, Value.string (y.c.at' y.k).id, Value.int IntKind.i64 (y.c.at' y.k).dl, Value.int IntKind.i64 (y.c.at' y.k).n, Value.int IntKind.i64 (y.c.at' y.k).by'] (31 : Nat)), ((6 : Nat), y.r.A)] ∧
                                                                                                                                                                                                                                                                                              y.r.n - y.m < x_9.r.n - x_9.m))
                                                                                                                                                                                                                                            (((0 : Int) ≤ n_6 ∧ n_6 < (↑x.n : Int)) ∧
                                                                                                                                                                                                                                              ∃ (n_9 : Int),
                                                                                                                                                                                                                                                Look (Atom.cells x_9.bc (ints x_9.cm) (3 : Nat)) { block := x_9.bc, off := (0 : Nat) + n_6.toNat * (1 : Nat) } (Value.int IntKind.i64 n_9) ∧
                                                                                                                                                                                                                                                  ((-9223372036854775808 : Int) ≤ n_9 + (1 : Int) ∧ n_9 + (1 : Int) ≤ (9223372036854775807 : Int)) ∧
                                                                                                                                                                                                                                                    ((0 : Int) ≤ n_6 ∧ n_6 < (↑x.n : Int)) ∧
                                                                                                                                                                                                                                                      (Same { block := x_9.bc, off := (0 : Nat) + n_6.toNat * (1 : Nat) } x_9.bc ∧ (0 : Nat) + n_6.toNat * (1 : Nat) < (ints x_9.cm).length) ∧
                                                                                                                                                                                                                                                        ((-9223372036854775808 : Int) ≤ (↑(runI x.cs (x_9.k + (1 : Nat))).ts.length : Int) + (↑x_9.r.n : Int) - (↑x_9.m : Int) - (1 : Int) ∧ (↑(runI x.cs (x_9.k + (1 : Nat))).ts.length : Int) + (↑x_9.r.n : Int) - (↑x_9.m : Int) - (1 : Int) ≤ (9223372036854775807 : Int)) ∧
                                                                                                                                                                                                                                                          ((-9223372036854775808 : Int) ≤ (↑x_9.m : Int) + (1 : Int) ∧ (↑x_9.m : Int) + (1 : Int) ≤ (9223372036854775807 : Int)) ∧
                                                                                                                                                                                                                                                            ∃ (y : OnceJ),
                                                                                                                                                                                                                                                              (onceQ x y.k y.c y.row y.ds y.cm y.r y.m ∧ y.k = n) ∧
                                                                                                                                                                                                                                                                (Value.slice x.a x.n x.cap = Value.slice x.a x.n x.cap ∧
                                                                                                                                                                                                                                                                    Value.pointer (some { block := x_9.b, off := (0 : Nat) }) = Value.pointer (some { block := y.b, off := (0 : Nat) }) ∧
                                                                                                                                                                                                                                                                      Value.slice (some { block := x_9.bd, off := (0 : Nat) }) x.n x.n = Value.slice (some { block := y.bd, off := (0 : Nat) }) x.n x.n ∧
                                                                                                                                                                                                                                                                        Value.slice (some { block := x_9.bc, off := (0 : Nat) }) x.n x.n = Value.slice (some { block := y.bc, off := (0 : Nat) }) x.n x.n ∧
                                                                                                                                                                                                                                                                          Value.int IntKind.i64 ((↑(runI x.cs (x_9.k + (1 : Nat))).ts.length : Int) + (↑x_9.r.n : Int) - (↑x_9.m : Int) - (1 : Int)) = Value.int IntKind.i64 ((↑(runI x.cs (y.k + (1 : Nat))).ts.length : Int) + (↑y.r.n : Int) - (↑y.m : Int)) ∧
                                                                                                                                                                                                                                                                            Value.int IntKind.i64 (↑x_9.k : Int) = Value.int IntKind.i64 (↑y.k : Int) ∧ Value.pointer (some { block := x_9.b8, off := (0 : Nat) }) = Value.pointer (some { block := y.b8, off := (0 : Nat) }) ∧ Value.slice x.a x.n x.cap = Value.slice x.a x.n x.cap ∧ Value.int IntKind.i64 (↑x.n : Int) = Value.int IntKind.i64 (↑x.n : Int) ∧ Value.int IntKind.i64 (↑x_9.k : Int) = Value.int IntKind.i64 (↑y.k : Int) ∧ Value.slice x_9.r.a x_9.r.n x_9.r.cap = Value.slice y.r.a y.r.n y.r.cap ∧ Value.int IntKind.i64 (↑x_9.r.n : Int) = Value.int IntKind.i64 (↑y.r.n : Int) ∧ Value.int IntKind.i64 ((↑x_9.m : Int) + (1 : Int)) = Value.int IntKind.i64 (↑y.m : Int) ∧ True) ∧
                                                                                                                                                                                                                                                                  Ent [((0 : Nat), F), ((1 : Nat), Atom.cells x_9.b [Value.int IntKind.i64 (runI x.cs (x_9.k + (1 : Nat))).now, Value.slice x_9.row.a x_9.row.n x_9.row.cap] (59 : Nat)), ((2 : Nat), x_9.row.A), ((3 : Nat), Atom.cells x_9.bd (ints x_9.ds) (2 : Nat)), ((4 : Nat), Atom.cells x_9.bc ((ints x_9.cm).set ((0 : Nat) + n_6.toNat * (1 : Nat)) (Value.int IntKind.i64 (n_9 + (1 : Int)))) (3 : Nat)), ((5 : Nat), Atom.cells x_9.b8 [Value.int IntKind.u8 (x_9.c.at' x_9.k).kind, Value.int IntKind.i64 (x_9.c.at' x_9.k).ow, Value.string (x_9.c.at' x_9.k).id, Value.int IntKind.i64 (x_9.c.at' x_9.k).dl, Value.int IntKind.i64 (x_9.c.at' x_9.k).n, Value.int IntKind.i64 (x_9.c.at' x_9.k).by'] (31 : Nat)), ((6 : Nat), x_9.r.A)]
                                                                                                                                                                                                                                                                      [((0 : Nat), F), ((1 : Nat), Atom.cells y.b [Value.int IntKind.i64 (runI x.cs (y.k + (1 : Nat))).now, Value.slice y.row.a y.row.n y.row.cap] (59 : Nat)), ((2 : Nat), y.row.A), ((3 : Nat), Atom.cells y.bd (ints y.ds) (2 : Nat)), ((4 : Nat), Atom.cells y.bc (ints y.cm) (3 : Nat)), ((5 : Nat), Atom.cells y.b8 [Value.int IntKind.u8 (y.c.at' y.k).kind, Value.int IntKind.i64 (y.c.at' y.k).ow, Value.string (y.c.at' y.k).id, Value.int IntKind.i64 (y.c.at' y.k).dl, Value.int IntKind.i64 (y.c.at' y.k).n, Value.int IntKind.i64 (y.c.at' y.k).by'] (31 : Nat)), ((6 : Nat), y.r.A)] ∧
                                                                                                                                                                                                                                                                    y.r.n - y.m < x_9.r.n - x_9.m))))))
                                                                                                                                                                                            (FnOk Try.prog (14 : Nat) timersC ∧
                                                                                                                                                                                              true = true ∧
                                                                                                                                                                                                ∃ (x_10 : ClkX),
                                                                                                                                                                                                  [Value.pointer (some { block := x_9.b, off := (0 : Nat) })] = [Value.pointer (some { block := x_10.b, off := (0 : Nat) })] ∧
                                                                                                                                                                                                    [Atom.cells x_9.b [Value.int IntKind.i64 (runI x.cs (x_9.k + (1 : Nat))).now, Value.slice x_9.row.a x_9.row.n x_9.row.cap] (59 : Nat), x_9.row.A] = [Atom.cells x_10.b [Value.int IntKind.i64 x_10.now, Value.slice x_10.row.a x_10.row.n x_10.row.cap] (59 : Nat), x_10.row.A] ∧
                                                                                                                                                                                                      isTs x_10.ts x_10.row ∧
                                                                                                                                                                                                        True ∧
                                                                                                                                                                                                          ∀ (y : Row),
                                                                                                                                                                                                            IsRow (44 : Nat) (4 : Nat) (encT x_10.ts) y ∧ y.n = x_10.ts.length →
                                                                                                                                                                                                              Br ((↑y.n : Int) != (↑(runI x.cs (x_9.k + (1 : Nat))).ts.length : Int) + (↑x_9.r.n : Int) - (↑x_9.m : Int)) (Done onceC x F (Ending.returned (Value.bool false)) [((0 : Nat), F), ((1 : Nat), Atom.cells x_10.b [Value.int IntKind.i64 x_10.now, Value.slice x_10.row.a x_10.row.n x_10.row.cap] (59 : Nat)), ((2 : Nat), x_10.row.A), ((3 : Nat), Atom.cells x_9.bd (ints x_9.ds) (2 : Nat)), ((4 : Nat), Atom.cells x_9.bc (ints x_9.cm) (3 : Nat)), ((5 : Nat), Atom.cells x_9.b8 [Value.int IntKind.u8 (x_9.c.at' x_9.k).kind, Value.int IntKind.i64 (x_9.c.at' x_9.k).ow, Value.string (x_9.c.at' x_9.k).id, Value.int IntKind.i64 (x_9.c.at' x_9.k).dl, Value.int IntKind.i64 (x_9.c.at' x_9.k).n, Value.int IntKind.i64 (x_9.c.at' x_9.k).by'] (31 : Nat)), ((6 : Nat), x_9.r.A), ((91 : Nat), y.A)])
                                                                                                                                                                                                                (((-9223372036854775808 : Int) ≤ (↑x_9.k : Int) + (1 : Int) ∧ (↑x_9.k : Int) + (1 : Int) ≤ (9223372036854775807 : Int)) ∧
                                                                                                                                                                                                                  ∃ (y_3 : OnceI),
                                                                                                                                                                                                                    onceP x y_3.k y_3.row y_3.ds y_3.cm ∧
                                                                                                                                                                                                                      (Value.slice x.a x.n x.cap = Value.slice x.a x.n x.cap ∧
                                                                                                                                                                                                                          Value.pointer (some { block := x_9.b, off := (0 : Nat) }) = Value.pointer (some { block := y_3.b, off := (0 : Nat) }) ∧
                                                                                                                                                                                                                            Value.slice (some { block := x_9.bd, off := (0 : Nat) }) x.n x.n = Value.slice (some { block := y_3.bd, off := (0 : Nat) }) x.n x.n ∧ Value.slice (some { block := x_9.bc, off := (0 : Nat) }) x.n x.n = Value.slice (some { block := y_3.bc, off := (0 : Nat) }) x.n x.n ∧ Value.int IntKind.i64 ((↑(runI x.cs (x_9.k + (1 : Nat))).ts.length : Int) + (↑x_9.r.n : Int) - (↑x_9.m : Int)) = Value.int IntKind.i64 (↑(runI x.cs y_3.k).ts.length : Int) ∧ Value.slice x.a x.n x.cap = Value.slice x.a x.n x.cap ∧ Value.int IntKind.i64 (↑x.n : Int) = Value.int IntKind.i64 (↑x.n : Int) ∧ Value.int IntKind.i64 ((↑x_9.k : Int) + (1 : Int)) = Value.int IntKind.i64 (↑y_3.k : Int) ∧ True) ∧
                                                                                                                                                                                                                        Ent [((0 : Nat), F), ((1 : Nat), Atom.cells x_10.b [Value.int IntKind.i64 x_10.now, Value.slice x_10.row.a x_10.row.n x_10.row.cap] (59 : Nat)), ((2 : Nat), x_10.row.A), ((3 : Nat), Atom.cells x_9.bd (ints x_9.ds) (2 : Nat)), ((4 : Nat), Atom.cells x_9.bc (ints x_9.cm) (3 : Nat)), ((5 : Nat), Atom.cells x_9.b8 [Value.int IntKind.u8 (x_9.c.at' x_9.k).kind, Value.int IntKind.i64 (x_9.c.at' x_9.k).ow, Value.string (x_9.c.at' x_9.k).id, Value.int IntKind.i64 (x_9.c.at' x_9.k).dl, Value.int IntKind.i64 (x_9.c.at' x_9.k).n, Value.int IntKind.i64 (x_9.c.at' x_9.k).by'] (31 : Nat)), ((6 : Nat), x_9.r.A), ((91 : Nat), y.A)]
                                                                                                                                                                                                                            [((0 : Nat), F), ((1 : Nat), Atom.cells y_3.b [Value.int IntKind.i64 (runI x.cs y_3.k).now, Value.slice y_3.row.a y_3.row.n y_3.row.cap] (59 : Nat)), ((2 : Nat), y_3.row.A), ((3 : Nat), Atom.cells y_3.bd (ints y_3.ds) (2 : Nat)), ((4 : Nat), Atom.cells y_3.bc (ints y_3.cm) (3 : Nat))] ∧
                                                                                                                                                                                                                          x.n - y_3.k < x.n - x_5.k)))
                                                                                    (Done onceC x F (Ending.returned (Value.bool true)) [((0 : Nat), F), ((1 : Nat), Atom.cells x_5.b [Value.int IntKind.i64 (runI x.cs x_5.k).now, Value.slice x_5.row.a x_5.row.n x_5.row.cap] (59 : Nat)), ((2 : Nat), x_5.row.A), ((3 : Nat), Atom.cells x_5.bd (ints x_5.ds) (2 : Nat)), ((4 : Nat), Atom.cells x_5.bc (ints x_5.cm) (3 : Nat))])) := by
  obtain ⟨a, n, cap, cs⟩ := x
  have hsrc : IsSrc 6 (encC cs) a n := hc
  replace hr : Srcd F a (encC cs) := hr
  have hlen : cs.length = n := by have := hsrc.len; rw [encC_length] at this; omega
  refine ⟨awake_ok, rfl, (), rfl, rfl, trivial, trivial, fun _ _ => br_decide (fun _ => ⟨(), trivial, rfl, Ent.pick [0] rfl rfl⟩) (fun h300 => ?_)⟩
  dsimp only at h300 ⊢
  refine ⟨new_ok, rfl, (), rfl, rfl, trivial, trivial, fun b _ => ⟨make_ok (P := Try.prog) [.int .i64 0] 8 rfl rfl rfl rfl rfl rfl (by simp) rfl, rfl, ⟨n, n⟩, rfl, rfl, ⟨by dsimp only; omega, by dsimp only; omega, by dsimp only; omega, by dsimp only; omega⟩, trivial, fun bd _ => ⟨make_ok (P := Try.prog) [.int .i64 0] 8 rfl rfl rfl rfl rfl rfl (by simp) rfl, rfl, ⟨n, n⟩, rfl, rfl, ⟨by dsimp only; omega, by dsimp only; omega, by dsimp only; omega, by dsimp only; omega⟩, trivial, fun bc _ => ⟨⟨⟨0, b, ⟨none, 0, 0, .emp⟩, bd, bc, List.replicate n 0, List.replicate n 0⟩, ⟨?_, ?_, ?_, ?_, ?_, ?_, ?_, ?_⟩, ⟨rfl, rfl, rfl, rfl, rfl, rfl, rfl, rfl, trivial⟩, ?_⟩, ?_⟩⟩⟩⟩
  · dsimp only; omega
  · exact Nat.zero_le _
  · exact isTs_nil
  · exact List.length_replicate ..
  · exact List.length_replicate ..
  · exact List.nodup_nil
  · intro t ht; exact absurd ht (by simp [runI, idxC, run])
  · intro j _ hj
    rw [List.length_replicate] at hj
    rw [List.getElem?_replicate, if_pos hj]
  · dsimp only
    rw [Int.toNat_natCast, zeros_ints]
    exact Ent.pick [0, 100, 77, 102, 103] rfl rfl
  rintro ⟨k, b, row, bd, bc, ds, cm⟩ js hP
  have hP' := hP
  obtain ⟨p1, p2, hts, hdl, hcl, hg⟩ := hP'
  dsimp only at p1 p2 hts hdl hcl hg ⊢
  have hbd := runI_bnd cs k
  have hl128 : (runI cs k).ts.length ≤ 128 := hts.2.2.1
  refine br_decide (fun hlt => ?_) (fun hge => ?_)
  · obtain ⟨b1, o1, rfl⟩ := hsrc.some (by omega)
    obtain ⟨d, hdk⟩ : ∃ d, cs[k]? = some d := ⟨cs[k], List.getElem?_eq_getElem (by omega)⟩
    have e1 : ∀ o i j : Nat, o + (i : Int).toNat * 6 + j = o + (i * 6 + j) := fun o i j => by omega
    have look : ∀ (i : Nat) (d : CallD), cs[i]? = some d → ∀ j u, d.enc[j]? = some u → Look F ⟨b1, o1 + (i : Int).toNat * 6 + j, none⟩ u := by
      intro i d hd j u hj
      have hj6 : j < 6 := (List.getElem?_eq_some_iff.1 hj).1
      rw [e1]
      exact hr.look (by rw [encC_get cs i j d hd hj6]; exact hj)
    refine ⟨ixq_ok 6 rfl rfl rfl rfl, ⟨b1, o1, n, cap, k⟩, rfl, by dsimp only; omega, d.kind, look k d hdk 0 _ rfl, d.ow, look k d hdk 1 _ rfl, d.id, look k d hdk 2 _ rfl, d.dl, look k d hdk 3 _ rfl, d.n, look k d hdk 4 _ rfl, d.by', look k d hdk 5 _ rfl, fun b8 => ?_⟩
    have hlt' : k < n := by omega
    have e0 : ∀ i : Nat, 0 + (i : Int).toNat * 1 = i := fun i => by omega
    simp only [same_refl, true_and]
    refine ⟨play_ok, ⟨b, runI cs k, row, d.at' k⟩, rfl, rfl, ⟨hts, hbd.1, hbd.2⟩, fun y hy b9 => ⟨k, ⟨by omega, br_intro (fun h0 => br_intro (fun he => ?_) (fun he => ?_)) (fun h0 => ?_)⟩, ?_⟩⟩
    · have hk0 : k5 d = 0 := beq_iff_eq.1 h0
      have hE : stepE (runI cs k) (d.at' k) = setE (runI cs k).ts d.dl := by
        unfold stepE; rw [show k5 (d.at' k) = 0 from hk0]; rfl
      have he' : setE (runI cs k).ts d.dl = 0 := by rw [← hE]; simpa using he
      have hdb : 0 ≤ d.dl ∧ d.dl ≤ 1000000000 := by
        by_cases h : d.dl < 0 ∨ d.dl > 1000000000
        · rw [setE_arg _ h] at he'; cases he'
        · omega
      obtain ⟨g1, g2, g3, g4⟩ := once_set hg (by omega) (by omega) hdk hk0 he'
      have hrn : y.r.n = 0 := by rw [hy.2.2, g2]; rfl
      refine ⟨now_ok, ⟨b, stepN (runI cs k) (d.at' k), [], y.row⟩, rfl, rfl, fun _ _ => ⟨by dsimp only; rw [g4]; omega, by omega, by rw [ints_length]; omega, by omega, ⟨k, d, b, y.row, bd, bc, ds.set k (stepN (runI cs k) (d.at' k) + d.dl), cm, b8, b9, stepE (runI cs k) (d.at' k), y.r, 0⟩, ⟨once_mk hlt' p1 hdk hy.1 hy.2 (by rw [List.length_set]; exact hdl) hcl ?_ (by rw [g2]; exact ⟨List.nodup_nil, by simp⟩) (by rw [g2]; simp) (by dsimp only; omega), rfl⟩, ⟨rfl, rfl, rfl, ?_, rfl, rfl, rfl, rfl, trivial⟩, ?_⟩⟩
      · rw [g4]; exact g1
      · dsimp only; rw [runI_succ hdk, hrn]; show Value.int _ _ = Value.int _ (((stepT (runI cs k) (d.at' k)).length : Int) + ((0 : Nat) : Int)); rw [g3]; rfl
      · dsimp only; rw [e0, ints_set, runI_succ hdk]; exact Ent.pick [0, 1, 2, 3, 4, 12030, 71, 14030] rfl rfl
    · have hk0 : k5 d = 0 := beq_iff_eq.1 h0
      have hE : stepE (runI cs k) (d.at' k) = setE (runI cs k).ts d.dl := by
        unfold stepE; rw [show k5 (d.at' k) = 0 from hk0]; rfl
      have he' : setE (runI cs k).ts (d.at' k).dl ≠ 0 := by
        have : setE (runI cs k).ts d.dl ≠ 0 := by rw [← hE]; simpa using he
        exact this
      obtain ⟨g1, g2, g3, g4⟩ := once_kept (c := d.at' k) hg hk0 he'
      have hrn : y.r.n = (stepO (runI cs k) (d.at' k)).length := hy.2.2
      refine ⟨⟨k, d, b, y.row, bd, bc, ds, cm, b8, b9, stepE (runI cs k) (d.at' k), y.r, 0⟩, ⟨once_mk hlt' p1 hdk hy.1 hy.2 hdl hcl g1 g2 g3 (by dsimp only; omega), rfl⟩, ⟨rfl, rfl, rfl, ?_, rfl, rfl, rfl, rfl, trivial⟩, ?_⟩
      · dsimp only; rw [runI_succ hdk, hrn]; show Value.int _ _ = Value.int _ (((stepT (runI cs k) (d.at' k)).length : Int) + ((stepO (runI cs k) (d.at' k)).length : Int)); congr 1; omega
      · dsimp only; rw [runI_succ hdk]; exact Ent.pick [0, 1, 2, 3, 4, 12030, 71, 14030] rfl rfl
    · have hk0 : k5 (d.at' k) ≠ 0 := by
        intro h; have : (d.kind.tmod 5 == 0) = true := by rw [show d.kind.tmod 5 = 0 from h]; rfl
        rw [this] at h0; cases h0
      obtain ⟨g1, g2, g3, g4⟩ := once_taken (c := d.at' k) hg hk0
      have hrn : y.r.n = (stepO (runI cs k) (d.at' k)).length := hy.2.2
      refine ⟨⟨k, d, b, y.row, bd, bc, ds, cm, b8, b9, stepE (runI cs k) (d.at' k), y.r, 0⟩, ⟨once_mk hlt' p1 hdk hy.1 hy.2 hdl hcl g1 g2 g3 (by dsimp only; omega), rfl⟩, ⟨rfl, rfl, rfl, ?_, rfl, rfl, rfl, rfl, trivial⟩, ?_⟩
      · dsimp only; rw [runI_succ hdk, hrn]; show Value.int _ _ = Value.int _ (((stepT (runI cs k) (d.at' k)).length : Int) + ((stepO (runI cs k) (d.at' k)).length : Int)); congr 1; omega
      · dsimp only; rw [runI_succ hdk]; exact Ent.pick [0, 1, 2, 3, 4, 12030, 71, 14030] rfl rfl
    · rintro ⟨k2, c2, v2, w2, bd2, bc2, ds2, cm2, b82, b92, e2, r2, m2⟩ js2 ⟨hQ2, hk2⟩
      dsimp only at hQ2 hk2 ⊢
      refine ⟨k2, ⟨⟨k2, c2, v2, w2, bd2, bc2, ds2, cm2, b82, b92, e2, r2, 0⟩, ⟨hQ2, rfl⟩, ⟨rfl, rfl, rfl, ?_, rfl, rfl, rfl, rfl, rfl, rfl, trivial⟩, Ent.pick [0, 1, 2, 3, 4, 5, 6] rfl rfl⟩, ?_⟩
      · dsimp only; congr 1 <;> omega
      rintro ⟨k3, c3, v3, w3, bd3, bc3, ds3, cm3, b83, b93, e3, r3, m3⟩ js3 ⟨hQ, hk3⟩
      dsimp only at hQ hk3 ⊢
      have hQ' := hQ
      obtain ⟨q1, q2, ⟨q3, q4, q5, q6, q7, q8⟩, q9, q10, q11, q12, q13⟩ := hQ'
      dsimp only at q1 q2 q3 q4 q5 q6 q7 q8
      have q5l : (runI cs (k3 + 1)).ts.length ≤ 128 := q5.2.2.1
      refine br_decide (fun hm => ?_) (fun hm => ?_)
      · obtain ⟨j, hj, hjk, ⟨c', hc', hc0⟩, hcm, ⟨e, hds, he⟩, hQn⟩ := once_in hQ (by omega)
        obtain ⟨b4, o4, e4⟩ := q9.1.src.some (show 0 < r3.n by omega)
        have hlk : Look r3.A ⟨b4, o4 + (m3 : Int).toNat * 1, none⟩ (.int .i64 j) := by
          have h1 := q9.1.srcd
          rw [e4] at h1
          have : o4 + (m3 : Int).toNat * 1 = o4 + m3 := by omega
          rw [this]
          exact h1.look (ints_getD hj)
        refine ⟨ixq_ok 1 rfl rfl rfl rfl, ⟨b4, o4, r3.n, r3.cap, m3⟩, by rw [e4], by dsimp only; omega, j, hlk, br_decide (fun h => by omega) (fun _ => br_decide (fun h => by omega) (fun _ => ⟨ixq_ok 6 rfl rfl rfl rfl, ⟨b1, o1, n, cap, j⟩, rfl, by dsimp only; omega, c'.kind, look j c' hc' 0 _ rfl, by omega, br_intro (fun h => ?_) (fun _ => ⟨by omega, 0, ?_, br_decide (fun h => by omega) (fun _ => ⟨by omega, br_intro (fun h3 => ⟨by omega, e, ?_, now_ok, ⟨v3, _, [], w3⟩, rfl, rfl, fun _ _ => br_decide (fun h => ?_) (fun _ => ?_)⟩) (fun _ => ?_)⟩)⟩)⟩))⟩
        · rw [hc0] at h; simp at h
        · rw [e0]; exact Look.cells (ints_getD hcm)
        · rw [e0]; exact Look.cells (ints_getD hds)
        · have h4 : e ≤ (runI cs (k3 + 1)).now := he (beq_iff_eq.1 h3)
          replace h : e > (runI cs (k3 + 1)).now := h
          omega
        all_goals
          refine ⟨by omega, 0, by rw [e0]; exact Look.cells (ints_getD hcm), by omega, by omega, by rw [ints_length]; omega, by omega, by omega, ⟨k3, c3, v3, w3, bd3, bc3, ds3, cm3.set j 1, b83, b93, e3, r3, m3 + 1⟩, ⟨hQn, hk3⟩, ⟨rfl, rfl, rfl, ?_, rfl, rfl, rfl, rfl, rfl, rfl, trivial⟩, ?_, by dsimp only; omega⟩
          · dsimp only; congr 1; omega
          · dsimp only; rw [e0, ints_set]; exact Ent.pick [0, 1, 2, 3, 4, 5, 6] rfl rfl
      · have hmr : m3 = r3.n := by omega
        refine ⟨timers_ok, ⟨v3, (runI cs (k3 + 1)).now, (runI cs (k3 + 1)).ts, w3⟩, rfl, rfl, q5, fun y4 hy4 => br_intro (fun hne => ?_) (fun _ => ⟨by omega, ⟨k3 + 1, v3, w3, bd3, bc3, ds3, cm3⟩, ⟨q3, q4, q5, q6, q7, q8⟩, ⟨rfl, rfl, rfl, ?_, rfl, trivial⟩, Ent.pick [0, 1, 2, 3, 4] rfl rfl, by dsimp only; omega⟩)⟩
        · have hyn := hy4.2
          dsimp only at hyn
          rw [hyn] at hne
          simp only [bne_iff_ne, ne_eq] at hne
          omega
        · dsimp only; congr 1; omega
  · exact ⟨(), trivial, rfl, Ent.pick [0] rfl rfl⟩
set_option maxRecDepth 100000 in
theorem once_ok : FnOk Try.prog 5 onceC :=
  fnOk (N := 115) (by kernel_rfl) Try.func5 rfl (by kernel_rfl) (fun _ => Nat.le_of_ble_eq_true rfl) once_H [] fun x F hc hr => Eq.mpr (by kernel_rfl) (once_vc x F hc hr)
end Go.Proofs.Ytmknmibmnidnoaa
