/- The law ChooseFits. -/
import Derived.Test.YtkmdgnbfojkcnaaChoW
import Derived.Test.YtkmdgnbfojkcnaaChoR
import Derived.Test.YtkmdgnbfojkcnaaLatS
set_option linter.all false
namespace Go.Proofs.Ytkmdgnbfojkcnaa
open Go
set_option maxHeartbeats 1000000
/-- What is asked for: of each, its source is active, and the event asks for it. -/
structure Fit1 (c : ChD) (cf : List Int) (name : ByteArray) (ev : Bool) (t : Int) : Prop where
  T : isT c t = true
  src : srcT c t ∈ cf
  S : isS c (srcT c t) = true
  tr : t ∈ strans c (srcT c t)
  hit : hitB c name ev t = true
theorem stsB_all {c : ChD} (h : stsB c 0 c.sts = true) {i : Nat} {s : StD} (hs : c.sts[i]? = some s) : ∀ u ∈ s.trans, okTr c (i : Nat) s u = true := by
  have hall : ∀ (l : List StD) (i k : Nat) (s : StD), stsB c i l = true → l[k]? = some s → ∀ u ∈ s.trans, okTr c (i + k : Nat) s u = true := by
    intro l
    induction l with
    | nil => intro i k s _ h; simp at h
    | cons x l ih =>
      intro i k s h1 h2
      rw [stsB, Bool.and_eq_true, Bool.and_eq_true] at h1
      cases k with
      | zero =>
        simp at h2
        subst h2
        intro u hu
        exact List.all_eq_true.1 h1.2.1 u hu
      | succ k =>
        have := ih (i + 1) k s h1.2.2 (by simpa using h2)
        rw [show i + (k + 1) = i + 1 + k by omega]
        exact this
  have := hall c.sts 0 i s h hs
  rw [Nat.zero_add] at this
  exact this
theorem root_none {c : ChD} (h : newB c = true) : strans c 0 = [] := by
  have hp := (newB_spec.1 h).1
  have hn := hp.n2
  cases hs : strans c 0 with
  | nil => rfl
  | cons t r =>
    exfalso
    obtain ⟨st, hst⟩ := get_st (c := c) (i := 0) (by omega)
    have h0 := hp.k0
    rw [kd_get hst] at h0
    have h2 := stsB_all (right_trans h).2 hst t (by unfold strans at hs; rw [show (0 : Int).toNat = 0 from rfl, hst] at hs; have : st.trans = t :: r := hs; rw [this]; simp)
    unfold okTr at h2
    rw [h0] at h2
    simp at h2
theorem abv_ins {c : ChD} (hp : Placed c) : ∀ (i : Nat), i < nS c → ∀ u : Int, u ∈ abvP c (-1) (pr c i) → ∃ j : Nat, u = j ∧ j < nS c ∧ insB c i j = true := by
  intro i
  induction i using Nat.strongRecOn with
  | _ i ih =>
    intro hi u hu
    rcases Nat.eq_zero_or_pos i with e | e
    · subst e
      rw [hp.p0, abvP_stop (.inl (by omega))] at hu
      cases hu
    · obtain ⟨_, _, h3, h4, _⟩ := hp.st i e hi
      obtain ⟨m, hm⟩ : ∃ m : Nat, pr c i = m := ⟨(pr c i).toNat, by omega⟩
      have hmi : m < i := by omega
      rw [hm, abvP_step hp (show m < nS c by omega) (by omega)] at hu
      rcases List.mem_cons.1 hu with rfl | hu
      · refine ⟨m, rfl, by omega, ?_⟩
        rw [ins_step hp e hi (by omega), hm]; simp
      · obtain ⟨j, rfl, hj, hij⟩ := ih m hmi (by omega) u hu
        refine ⟨j, rfl, hj, ?_⟩
        rw [ins_step hp e hi hj, hm, Int.toNat_natCast, hij, Bool.or_true]
theorem chain_in {c : ChD} (hp : Placed c) {cf : List Int} (h : LegalP c cf) {i : Nat} (hi : i < nS c) (hc : (i : Int) ∈ cf) {u : Int} (hu : u ∈ chain c i) : u = 0 ∨ u ∈ cf := by
  rcases List.mem_cons.1 hu with rfl | hu
  · exact .inr hc
  · unfold abvV at hu
    rw [isS_nat hi, cond_true, Int.toNat_natCast] at hu
    obtain ⟨j, rfl, hj, hij⟩ := abv_ins hp i hi u hu
    rcases Nat.eq_zero_or_pos j with e | e
    · subst e; exact .inl rfl
    · exact .inr (h.up hp i j hc hj e hij)
theorem askA_fit {c : ChD} (h : newB c = true) {cf : List Int} {name : ByteArray} {ev : Bool} : ∀ (l o : List Int), (∀ u ∈ l, isS c u = true ∧ (u = 0 ∨ u ∈ cf)) → (∀ t ∈ o, Fit1 c cf name ev t) → ∀ t ∈ askA c name ev l o, Fit1 c cf name ev t
  | [], _, _, ho => ho
  | p :: r, o, hl, ho => by
    rw [askA]
    cases ha : ask1 c name ev p with
    | none => exact askA_fit h r o (fun u hu => hl u (by simp [hu])) ho
    | some t =>
      obtain ⟨hS, h0⟩ := hl p (by simp)
      obtain ⟨h1, h2, h3, h4⟩ := ask1_ok h hS ha
      have hpc : p ∈ cf := by
        rcases h0 with rfl | h0
        · rw [root_none h] at h4; cases h4
        · exact h0
      intro u hu
      have hu : u ∈ add1 o t := hu
      unfold add1 at hu
      have : u ∈ o ∨ u = t := by
        cases hm : memB o t with
        | true => rw [hm] at hu; exact .inl hu
        | false =>
          rw [hm, cond_false] at hu
          rcases List.mem_append.1 hu with hu | hu
          · exact .inl hu
          · exact .inr (List.mem_singleton.1 hu)
      rcases this with hu | rfl
      · exact ho u hu
      · exact ⟨h1, by rw [h2]; exact hpc, by rw [h2]; exact hS, by rw [h2]; exact h4, h3⟩
theorem askV_fit {c : ChD} (h : newB c = true) {cf : List Int} (hL : LegalP c cf) {name : ByteArray} {ev : Bool} : ∀ n, n ≤ nS c → ∀ t ∈ askV c name ev cf n, Fit1 c cf name ev t
  | 0, _ => fun t ht => by simp [askV] at ht
  | n + 1, hn => by
    have ih := askV_fit h hL (name := name) (ev := ev) n (by omega)
    rw [askV_succ]
    unfold askS
    cases hb : (atB c n && memB cf n) with
    | false => exact ih
    | true =>
      rw [Bool.and_eq_true] at hb
      exact askA_fit h _ _ (fun u hu => ⟨chain_ok h (by omega) u hu, chain_in (newB_spec.1 h).1 hL (by omega) (memB_iff.1 hb.2) hu⟩) ih
theorem selV_fit {c : ChD} (h : newB c = true) {cf : List Int} (hL : LegalP c cf) {mem : List (List Int)} {name : ByteArray} {ev : Bool} : ∀ t ∈ selV c mem cf name ev, Fit1 c cf name ev t := fun t ht => by
  have hpe := peace c mem cf (askV c name ev cf (nS c))
  exact askV_fit h hL (nS c) (Nat.le_refl _) t (hpe.from_ t (hpe.kept t ht))
/-- What is read of a chart: its states' transitions, its transitions' sources and events. -/
theorem sel_ch {F : Atom} {c : ChD} {w : ChS} (hch : ChIn F w.v c) : SelW F c w ∧ ∀ i, i < c.trs.length → ∃ b0 o0, w.vt.a = some ⟨b0, o0, none⟩ ∧ Look F ⟨b0, o0 + i * 6, none⟩ (.int .i64 (srcT c i)) := by
  obtain ⟨⟨va, vn, vcap⟩, ⟨ta, tn, tc⟩, wb, wd, wi⟩ := w
  have h1 := hch.sts
  have h2 := hch.trs
  dsimp only [ChS.v] at h1 h2
  obtain ⟨n1, -, -⟩ := h1.num
  obtain ⟨m1, -, -⟩ := h2.num
  refine ⟨⟨n1, m1, fun i hi => ?_, fun i hi => ?_⟩, fun i hi => ?_⟩
  · obtain ⟨s, hs⟩ := get_st hi
    obtain ⟨b0, o0, r, rfl, ⟨vk, ve, vx, vt, vd, vi, vp, rfl, p1, p2, p3, p4, -⟩, hL⟩ := h1.at' hs
    have e : strans c i = s.trans := by unfold strans; rw [Int.toNat_natCast, hs]; rfl
    obtain ⟨ka, kc, rfl, -⟩ := SlIn.open p4
    exact ⟨b0, o0, ka, kc, rfl, by rw [e]; exact hL 7 _ rfl, by rw [e]; exact p4⟩
  · obtain ⟨t, ht⟩ : ∃ t, c.trs[i]? = some t := ⟨_, List.getElem?_eq_getElem hi⟩
    obtain ⟨b0, o0, r, rfl, ⟨ve, vt, rfl, p1, p2⟩, hL⟩ := h2.at' ht
    have e : evs c i = t.events := by unfold evs; rw [Int.toNat_natCast, ht]; rfl
    obtain ⟨ka, kc, rfl, -⟩ := SlIn.open p1
    exact ⟨b0, o0, ka, kc, rfl, by rw [e]; exact hL 1 _ rfl, by rw [e]; exact p1⟩
  · obtain ⟨t, ht⟩ : ∃ t, c.trs[i]? = some t := ⟨_, List.getElem?_eq_getElem hi⟩
    obtain ⟨b0, o0, r, rfl, ⟨ve, vt, rfl, p1, p2⟩, hL⟩ := h2.at' ht
    have e : srcT c i = t.source := by unfold srcT; rw [Int.toNat_natCast, ht]; rfl
    exact ⟨b0, o0, rfl, by rw [e]; exact hL 0 _ rfl⟩
def fiNOv (_x : MvX) (_F : Atom) : List (Nat × Nat × OH) := [(0, 0, .n 1000), (0, 1, .n 1010), (1, 0, .c awC [] []), (3, 0, .q (at8 1000)), (3, 1, .q (at6 1010)), (3, 2, .c lgeC [] []), (5, 0, .q (at8 1000)), (5, 1, .c newNC [] [])]
noncomputable def ftN_H (x : Con.X (mvC fun c => newB c = false)) (F : Atom) : Hints where
  op := hk ((fiNOv x F) ++ [])
  inv := noInv x F
  cut := (fun _ _ _ => none) x F
  ord := (fun _ => [])
open Go.Value (int slice string bool pointer agg tuple func) in
open Go.IntKind (i64) in
set_option maxRecDepth 100000 in
theorem ftN_vc (x : MvX) (F : Atom) (hc : Con.cond (mvC fun c => newB c = false) x) (hr : Con.rdc (mvC fun c => newB c = false) x F) :
  ∀ (b b_1 : Nat),
 FnOk Try.prog 38 awC ∧
 true = true ∧
 ∃ (x_1 : Unit),
 ([] : List Value) = [] ∧
 ([] : List Atom) = [] ∧
 True ∧
 True ∧
 ∀ (y : Unit),
 True →
 Same ⟨b, 0, none⟩ b ∧
 Same ⟨b, 1, none⟩ b ∧
 Same ⟨b, 2, none⟩ b ∧
 Same ⟨b, 3, none⟩ b ∧
 Same ⟨b, 4, none⟩ b ∧
 Same ⟨b, 5, none⟩ b ∧
 Same ⟨b, 6, none⟩ b ∧
 Same ⟨b, 7, none⟩ b ∧
 Same ⟨b_1, 0, none⟩ b_1 ∧
 Same ⟨b_1, 1, none⟩ b_1 ∧
 Same ⟨b_1, 2, none⟩ b_1 ∧
 Same ⟨b_1, 3, none⟩ b_1 ∧
 Same ⟨b_1, 4, none⟩ b_1 ∧
 Same ⟨b_1, 5, none⟩ b_1 ∧
 FnOk Try.prog 41 lgeC ∧
 true = true ∧
 ∃ (x_2 : MvX),
 [agg { toList := (chS x.c x.w) }, agg { toList := [slice x.g.a x.g.n x.g.cap, slice x.s.a x.s.n x.s.cap, slice x.m.a x.m.n x.m.cap, string x.name, bool x.ev, slice x.hs.a x.hs.n x.hs.cap] }] =
 [agg { toList := (chS x_2.c x_2.w) }, agg { toList := [slice x_2.g.a x_2.g.n x_2.g.cap, slice x_2.s.a x_2.s.n x_2.s.cap, slice x_2.m.a x_2.m.n x_2.m.cap, string x_2.name, bool x_2.ev, slice x_2.hs.a x_2.hs.n x_2.hs.cap] }] ∧
 ([] : List Atom) = [] ∧
 True ∧
 MvIn (Atom.pred (rest [(0, F), (1000, Atom.cells b (chS x.c x.w) 28), (1010, Atom.cells b_1 [slice x.g.a x.g.n x.g.cap, slice x.s.a x.s.n x.s.cap, slice x.m.a x.m.n x.m.cap, string x.name, bool x.ev, slice x.hs.a x.hs.n x.hs.cap] 68)] [])) x_2 ∧
 ∀ (y : Bool),
 True →
 Br y (Done (mvC fun (c : ChD) => newB c = false) x F (Ending.returned (bool true)) [(0, F), (1000, Atom.cells b (chS x.c x.w) 28), (1010, Atom.cells b_1 [slice x.g.a x.g.n x.g.cap, slice x.s.a x.s.n x.s.cap, slice x.m.a x.m.n x.m.cap, string x.name, bool x.ev, slice x.hs.a x.hs.n x.hs.cap] 68)])
 (Same ⟨b, 0, none⟩ b ∧
 Same ⟨b, 1, none⟩ b ∧
 Same ⟨b, 2, none⟩ b ∧
 Same ⟨b, 3, none⟩ b ∧
 Same ⟨b, 4, none⟩ b ∧
 Same ⟨b, 5, none⟩ b ∧
 Same ⟨b, 6, none⟩ b ∧
 Same ⟨b, 7, none⟩ b ∧
 FnOk Try.prog 14 newNC ∧
 true = true ∧
 ∃ (x_3 : ClnCX),
 [agg { toList := (chS x.c x.w) }] = [agg { toList := (chS x_3.c x_3.w) }] ∧
 ([] : List Atom) = [] ∧
 newB x_3.c = false ∧
 ChIn (Atom.pred (rest [(0, F), (1000, Atom.cells b (chS x.c x.w) 28), (1010, Atom.cells b_1 [slice x.g.a x.g.n x.g.cap, slice x.s.a x.s.n x.s.cap, slice x.m.a x.m.n x.m.cap, string x.name, bool x.ev, slice x.hs.a x.hs.n x.hs.cap] 68)] [])) x_3.w.v x_3.c ∧
 ∀ (y : Unit), True → Done (mvC fun (c : ChD) => newB c = false) x F (Ending.returned (bool true)) [(0, F), (1000, Atom.cells b (chS x.c x.w) 28), (1010, Atom.cells b_1 [slice x.g.a x.g.n x.g.cap, slice x.s.a x.s.n x.s.cap, slice x.m.a x.m.n x.m.cap, string x.name, bool x.ev, slice x.hs.a x.hs.n x.hs.cap] 68)]) := by
  obtain ⟨hnew, -⟩ := hc
  replace hr : MvIn F x := hr
  intro b b3
  refine ⟨aw15_ok, rfl, (), rfl, rfl, trivial, trivial, fun _ _ => ?_⟩
  iterate 14 refine ⟨⟨rfl, rfl⟩, ?_⟩
  refine ⟨lge_ok, rfl, x, rfl, rfl, trivial, hr.sub (sub_rest 0 (by simp) rfl), fun y _ => br_intro (fun _ => ⟨(), trivial, rfl, Ent.pick [0] rfl rfl⟩) (fun _ => ?_)⟩
  iterate 8 refine ⟨⟨rfl, rfl⟩, ?_⟩
  exact ⟨newN_ok, rfl, ⟨x.c, x.w⟩, rfl, rfl, hnew, hr.ch.sub (sub_rest 0 (by simp) rfl), fun _ _ => ⟨(), trivial, rfl, Ent.pick [0] rfl rfl⟩⟩
set_option maxRecDepth 100000 in
theorem ftN_ok : FnOk Try.prog 10 (mvC fun c => newB c = false) :=
  fnOk (N := 122) (by kernel_rfl) Try.func10 rfl (by kernel_rfl) (fun _ => Nat.le_of_ble_eq_true rfl) ftN_H [] fun x F hc hr => Eq.mpr (by kernel_rfl) (ftN_vc x F hc hr)
structure FtI where
  b : Nat
  b3 : Nat
  r : Row
  i : Nat
  t : Int
  ka : Option Addr
  kc : Nat
  k : Nat
def mtF (x : MvX) (t : Int) (k : Nat) : Bool := (!x.ev && (evs x.c t).isEmpty) || (x.ev && ((evs x.c t).take k).any (matchB · x.name))
structure FtP (x : MvX) (i : FtI) : Prop where
  leg : LegalP x.c x.cf
  row : IsRow 3 1 (ints (selV x.c x.mem x.cf x.name x.ev)) i.r
  le : i.i ≤ (selV x.c x.mem x.cf x.name x.ev).length
structure FtQ (x : MvX) (F : Atom) (i : FtI) : Prop where
  leg : LegalP x.c x.cf
  row : IsRow 3 1 (ints (selV x.c x.mem x.cf x.name x.ev)) i.r
  t : (selV x.c x.mem x.cf x.name x.ev)[i.i]? = some i.t
  evs : StrsIn F (.slice i.ka (evs x.c i.t).length i.kc) (evs x.c i.t)
  le : i.k ≤ (Go.Proofs.Ytkmdgnbfojkcnaa.evs x.c i.t).length
def ftS (x : MvX) (F : Atom) (i : FtI) : List Atom := [.cells i.b (chS x.c x.w) 28, .cells i.b3 (moS x) 68, i.r.A, F]
def ftInv (x : MvX) (F : Atom) : Nat → Option Inv := fun
  | 0 => some { X := FtI, P := fun i => FtP x i, mu := fun i => (selV x.c x.mem x.cf x.name x.ev).length - i.i, lv := fun i => [(2, .pointer (some ⟨i.b, 0, none⟩)), (3, .pointer (some ⟨i.b3, 0, none⟩)), (40, .slice i.r.a i.r.n i.r.cap), (41, .int .i64 i.r.n), (42, .int .i64 i.i)], st := ftS x F }
  | 2 => some { X := FtI, P := fun i => FtQ x F i, gh := some ⟨Nat × Int, fun i => (i.i, i.t)⟩, mu := fun i => (evs x.c i.t).length - i.k, lv := fun i => [(2, .pointer (some ⟨i.b, 0, none⟩)), (3, .pointer (some ⟨i.b3, 0, none⟩)), (8, .int .i64 i.t), (9, .bool (mtF x i.t i.k)), (40, .slice i.r.a i.r.n i.r.cap), (41, .int .i64 i.r.n), (42, .int .i64 i.i), (101, .slice i.ka (evs x.c i.t).length i.kc), (102, .int .i64 (evs x.c i.t).length), (103, .int .i64 i.k)], st := ftS x F }
  | _ => none
def ftCut (x : MvX) (F : Atom) : Nat → Option Inv := fun
  | 14 => some { X := FtI, P := fun i => FtQ x F i, gh := some ⟨Nat × Int, fun i => (i.i, i.t)⟩, mu := fun _ => 0, lv := fun i => [(2, .pointer (some ⟨i.b, 0, none⟩)), (3, .pointer (some ⟨i.b3, 0, none⟩)), (8, .int .i64 i.t), (9, .bool (mtF x i.t 0)), (40, .slice i.r.a i.r.n i.r.cap), (41, .int .i64 i.r.n), (42, .int .i64 i.i)], st := ftS x F }
  | _ => none
def ftOv (_x : MvX) (_F : Atom) : List (Nat × Nat × OH) := [(0, 0, .n 1000), (0, 1, .n 1010), (1, 0, .c awC [] []), (3, 0, .q (at8 1000)), (3, 1, .q (at6 1010)), (3, 2, .c lgeC [] []), (5, 0, .q (at8 1000)), (5, 1, .c newYC [] [6010]), (6, 5, .q [.atj 1010]), (6, 6, .c legC [] []), (8, 2, .q [.atj 1010]), (8, 4, .q [.atj 1010]), (8, 6, .q [.atj 1010]), (8, 8, .q [.atj 1010]), (8, 9, .c slcC [] [9090]),
  (10, 0, .qo (ixQ 1)), (10, 1, .q [.ex 2 (.int .i64)]), (11, 5, .q [.atj 0]), (11, 11, .q [.atj 0]), (11, 13, .qo (ixQ 6)), (11, 15, .q [.ex 3 (.int .i64)]), (11, 17, .q [.atj 1]), (11, 18, .c amC [] []), (11, 24, .q [.atj 0]), (11, 26, .q [.atj 0]), (11, 28, .qo (ixQ 6)), (11, 30, .q [.ex 3 (.int .i64)]), (11, 31, .qo (ixQ 13)), (11, 33, .q [.ex 3 .slice]), (11, 34, .c amC [] []),
  (13, 1, .q [.atj 1]), (13, 5, .q [.atj 0]), (13, 7, .qo (ixQ 6)), (13, 9, .q [.ex 3 .slice]), (14, 1, .q [.atj 0]), (14, 3, .qo (ixQ 6)), (14, 5, .q [.ex 3 .slice]), (16, 0, .qo (ixQ 1)), (16, 1, .q [.ex 3 .str]), (17, 3, .q [.atj 1]), (17, 7, .q [.atj 1]), (17, 8, .c mtC [] [])]
noncomputable def ftY_H (x : Con.X (mvC fun c => newB c = true ∧ EvOk c)) (F : Atom) : Hints where
  op := hk ((ftOv x F) ++ [])
  inv := ftInv x F
  cut := ftCut x F
  ord := (fun _ => [])
open Go.Value (int slice string bool pointer agg tuple func) in
open Go.IntKind (i64) in
set_option maxRecDepth 100000 in
theorem ftY_vc (x : MvX) (F : Atom) (hc : Con.cond (mvC fun c => newB c = true ∧ EvOk c) x) (hr : Con.rdc (mvC fun c => newB c = true ∧ EvOk c) x F) :
  ∀ (b b_1 : Nat),
 FnOk Try.prog 38 awC ∧
 true = true ∧
 ∃ (x_1 : Unit),
 ([] : List Value) = [] ∧
 ([] : List Atom) = [] ∧
 True ∧
 True ∧
 ∀ (y : Unit),
 True →
 Same ⟨b, 0, none⟩ b ∧
 Same ⟨b, 1, none⟩ b ∧
 Same ⟨b, 2, none⟩ b ∧
 Same ⟨b, 3, none⟩ b ∧
 Same ⟨b, 4, none⟩ b ∧
 Same ⟨b, 5, none⟩ b ∧
 Same ⟨b, 6, none⟩ b ∧
 Same ⟨b, 7, none⟩ b ∧
 Same ⟨b_1, 0, none⟩ b_1 ∧
 Same ⟨b_1, 1, none⟩ b_1 ∧
 Same ⟨b_1, 2, none⟩ b_1 ∧
 Same ⟨b_1, 3, none⟩ b_1 ∧
 Same ⟨b_1, 4, none⟩ b_1 ∧
 Same ⟨b_1, 5, none⟩ b_1 ∧
 FnOk Try.prog 41 lgeC ∧
 true = true ∧
 ∃ (x_2 : MvX),
 [agg { toList := (chS x.c x.w) }, agg { toList := [slice x.g.a x.g.n x.g.cap, slice x.s.a x.s.n x.s.cap, slice x.m.a x.m.n x.m.cap, string x.name, bool x.ev, slice x.hs.a x.hs.n x.hs.cap] }] =
 [agg { toList := (chS x_2.c x_2.w) }, agg { toList := [slice x_2.g.a x_2.g.n x_2.g.cap, slice x_2.s.a x_2.s.n x_2.s.cap, slice x_2.m.a x_2.m.n x_2.m.cap, string x_2.name, bool x_2.ev, slice x_2.hs.a x_2.hs.n x_2.hs.cap] }] ∧
 ([] : List Atom) = [] ∧
 True ∧
 MvIn (Atom.pred (rest [(0, F), (1000, Atom.cells b (chS x.c x.w) 28), (1010, Atom.cells b_1 [slice x.g.a x.g.n x.g.cap, slice x.s.a x.s.n x.s.cap, slice x.m.a x.m.n x.m.cap, string x.name, bool x.ev, slice x.hs.a x.hs.n x.hs.cap] 68)] [])) x_2 ∧
 ∀ (y : Bool),
 True →
 Br y (Done (mvC fun (c : ChD) => newB c = true ∧ EvOk c) x F (Ending.returned (bool true)) [(0, F), (1000, Atom.cells b (chS x.c x.w) 28), (1010, Atom.cells b_1 [slice x.g.a x.g.n x.g.cap, slice x.s.a x.s.n x.s.cap, slice x.m.a x.m.n x.m.cap, string x.name, bool x.ev, slice x.hs.a x.hs.n x.hs.cap] 68)])
 (Same ⟨b, 0, none⟩ b ∧
 Same ⟨b, 1, none⟩ b ∧
 Same ⟨b, 2, none⟩ b ∧
 Same ⟨b, 3, none⟩ b ∧
 Same ⟨b, 4, none⟩ b ∧
 Same ⟨b, 5, none⟩ b ∧
 Same ⟨b, 6, none⟩ b ∧
 Same ⟨b, 7, none⟩ b ∧
 FnOk Try.prog 14 newYC ∧
 true = true ∧
 ∃ (x_3 : ClnCX),
 [agg { toList := (chS x.c x.w) }] = [agg { toList := (chS x_3.c x_3.w) }] ∧
 ([] : List Atom) = [] ∧
 newB x_3.c = true ∧
 ChIn (Atom.pred (rest [(0, F), (1000, Atom.cells b (chS x.c x.w) 28), (1010, Atom.cells b_1 [slice x.g.a x.g.n x.g.cap, slice x.s.a x.s.n x.s.cap, slice x.m.a x.m.n x.m.cap, string x.name, bool x.ev, slice x.hs.a x.hs.n x.hs.cap] 68)] [])) x_3.w.v x_3.c ∧
 ∀ (y : NewY),
 LatIn y.G y.b x_3.c →
 Same ⟨b_1, 0, none⟩ b_1 ∧
 FnOk Try.prog 26 legC ∧
 true = true ∧
 ∃ (x_4 : LegX),
 [pointer (some ⟨y.b, 0, none⟩), slice x.g.a x.g.n x.g.cap] = [pointer (some ⟨x_4.b, 0, none⟩), slice x_4.a x_4.n x_4.cap] ∧
 ([] : List Atom) = [] ∧
 (IsSrc 1 (ints x_4.cf) x_4.a x_4.n ∧ x_4.n * 8 ≤ 140737488351232) ∧
 (LatIn (Atom.pred (rest [(0, F), (1000, Atom.cells b (chS x.c x.w) 28), (1010, Atom.cells b_1 [slice x.g.a x.g.n x.g.cap, slice x.s.a x.s.n x.s.cap, slice x.m.a x.m.n x.m.cap, string x.name, bool x.ev, slice x.hs.a x.hs.n x.hs.cap] 68), (6010, y.G)] [])) x_4.b x_4.c ∧
 Srcd (Atom.pred (rest [(0, F), (1000, Atom.cells b (chS x.c x.w) 28), (1010, Atom.cells b_1 [slice x.g.a x.g.n x.g.cap, slice x.s.a x.s.n x.s.cap, slice x.m.a x.m.n x.m.cap, string x.name, bool x.ev, slice x.hs.a x.hs.n x.hs.cap] 68), (6010, y.G)] [])) x_4.a (ints x_4.cf)) ∧
 ∀ (y_1 : Unit),
 True →
 Br (!legB x_4.c x_4.cf) (Done (mvC fun (c : ChD) => newB c = true ∧ EvOk c) x F (Ending.returned (bool true)) [(0, F), (1000, Atom.cells b (chS x.c x.w) 28), (1010, Atom.cells b_1 [slice x.g.a x.g.n x.g.cap, slice x.s.a x.s.n x.s.cap, slice x.m.a x.m.n x.m.cap, string x.name, bool x.ev, slice x.hs.a x.hs.n x.hs.cap] 68), (6010, y.G)])
 (Same ⟨b_1, 0, none⟩ b_1 ∧
 Same ⟨b_1, 2, none⟩ b_1 ∧
 Same ⟨b_1, 3, none⟩ b_1 ∧
 Same ⟨b_1, 4, none⟩ b_1 ∧
 FnOk Try.prog 44 slcC ∧
 true = true ∧
 ∃ (x_5 : SlcX),
 [pointer (some ⟨y.b, 0, none⟩), slice x.g.a x.g.n x.g.cap, slice x.m.a x.m.n x.m.cap, string x.name, bool x.ev, Value.nilFunc] = [pointer (some ⟨x_5.b, 0, none⟩), slice x_5.g.a x_5.g.n x_5.g.cap, slice x_5.m.a x_5.m.n x_5.m.cap, string x_5.name, bool x_5.ev, Value.nilFunc] ∧
 ([] : List Atom) = [] ∧
 (newB x_5.c = true ∧ EvOk x_5.c ∧ IsSrc 1 (ints x_5.cf) x_5.g.a x_5.g.n ∧ x_5.g.n * 8 ≤ 140737488351232) ∧
 (LatIn (Atom.pred (rest [(0, F), (1000, Atom.cells b (chS x.c x.w) 28), (1010, Atom.cells b_1 [slice x.g.a x.g.n x.g.cap, slice x.s.a x.s.n x.s.cap, slice x.m.a x.m.n x.m.cap, string x.name, bool x.ev, slice x.hs.a x.hs.n x.hs.cap] 68), (6010, y.G)] [])) x_5.b x_5.c ∧
 Srcd (Atom.pred (rest [(0, F), (1000, Atom.cells b (chS x.c x.w) 28), (1010, Atom.cells b_1 [slice x.g.a x.g.n x.g.cap, slice x.s.a x.s.n x.s.cap, slice x.m.a x.m.n x.m.cap, string x.name, bool x.ev, slice x.hs.a x.hs.n x.hs.cap] 68), (6010, y.G)] [])) x_5.g.a (ints x_5.cf) ∧
 MemIn (Atom.pred (rest [(0, F), (1000, Atom.cells b (chS x.c x.w) 28), (1010, Atom.cells b_1 [slice x.g.a x.g.n x.g.cap, slice x.s.a x.s.n x.s.cap, slice x.m.a x.m.n x.m.cap, string x.name, bool x.ev, slice x.hs.a x.hs.n x.hs.cap] 68), (6010, y.G)] [])) (slice x_5.m.a x_5.m.n x_5.m.cap) x_5.mem) ∧
 ∀ (y_2 : Row),
 IsRow 3 1 (ints (selV x_5.c x_5.mem x_5.cf x_5.name x_5.ev)) y_2 →
 (∃ (x_6 : FtI),
 FtP x x_6 ∧
 (pointer (some ⟨b, 0, none⟩) = pointer (some ⟨x_6.b, 0, none⟩) ∧ pointer (some ⟨b_1, 0, none⟩) = pointer (some ⟨x_6.b3, 0, none⟩) ∧ slice y_2.a y_2.n y_2.cap = slice x_6.r.a x_6.r.n x_6.r.cap ∧ int i64 (↑y_2.n : Int) = int i64 (↑x_6.r.n : Int) ∧ int i64 (0 : Int) = int i64 (↑x_6.i : Int) ∧ True) ∧
 Ent [(0, F), (1000, Atom.cells b (chS x.c x.w) 28), (1010, Atom.cells b_1 [slice x.g.a x.g.n x.g.cap, slice x.s.a x.s.n x.s.cap, slice x.m.a x.m.n x.m.cap, string x.name, bool x.ev, slice x.hs.a x.hs.n x.hs.cap] 68), (6010, y.G), (9090, y_2.A)]
 [(0, Atom.cells x_6.b (chS x.c x.w) 28), (1, Atom.cells x_6.b3 [slice x.g.a x.g.n x.g.cap, slice x.s.a x.s.n x.s.cap, slice x.m.a x.m.n x.m.cap, string x.name, bool x.ev, slice x.hs.a x.hs.n x.hs.cap] 68), (2, x_6.r.A), (3, F)]) ∧
 ∀ (x_6 : FtI) (js : Nat → Value),
 FtP x x_6 →
 Br (decide ((↑x_6.i : Int) < (↑x_6.r.n : Int)))
 (QOpOk Try.prog (opIn Try.f10 10 0) (ixQ 1) ∧
 ∃ (x_7 : IxQX),
 [slice x_6.r.a x_6.r.n x_6.r.cap, int i64 (↑x_6.i : Int)] = [slice (some ⟨x_7.b, x_7.o, none⟩) x_7.len x_7.cap, int i64 x_7.n] ∧
 ((0 : Int) ≤ x_7.n ∧ x_7.n < (↑x_7.len : Int)) ∧
 ∃ (n : Int),
 Look x_6.r.A ⟨x_7.b, x_7.o + x_7.n.toNat * 1, none⟩ (int i64 n) ∧
 true = true ∧
 Br (decide (n < (0 : Int))) (Done (mvC fun (c : ChD) => newB c = true ∧ EvOk c) x F (Ending.returned (bool false)) [(0, Atom.cells x_6.b (chS x.c x.w) 28), (1, Atom.cells x_6.b3 [slice x.g.a x.g.n x.g.cap, slice x.s.a x.s.n x.s.cap, slice x.m.a x.m.n x.m.cap, string x.name, bool x.ev, slice x.hs.a x.hs.n x.hs.cap] 68), (2, x_6.r.A), (3, F)])
 (Same ⟨x_6.b, 4, none⟩ x_6.b ∧
 Br (decide (n ≥ (↑x.w.vt.n : Int))) (Done (mvC fun (c : ChD) => newB c = true ∧ EvOk c) x F (Ending.returned (bool false)) [(0, Atom.cells x_6.b (chS x.c x.w) 28), (1, Atom.cells x_6.b3 [slice x.g.a x.g.n x.g.cap, slice x.s.a x.s.n x.s.cap, slice x.m.a x.m.n x.m.cap, string x.name, bool x.ev, slice x.hs.a x.hs.n x.hs.cap] 68), (2, x_6.r.A), (3, F)])
 (Same ⟨x_6.b, 4, none⟩ x_6.b ∧
 QOpOk Try.prog (opIn Try.f10 11 13) (ixQ 6) ∧
 ∃ (x_8 : IxQX),
 [slice x.w.vt.a x.w.vt.n x.w.vt.cap, int i64 n] = [slice (some ⟨x_8.b, x_8.o, none⟩) x_8.len x_8.cap, int i64 x_8.n] ∧
 ((0 : Int) ≤ x_8.n ∧ x_8.n < (↑x_8.len : Int)) ∧
 ∃ (n_1 : Int),
 Look F ⟨x_8.b, x_8.o + x_8.n.toNat * 6, none⟩ (int i64 n_1) ∧
 Same ⟨x_6.b3, 0, none⟩ x_6.b3 ∧
 FnOk Try.prog 35 amC ∧
 true = true ∧
 ∃ (x_9 : InX),
 [int i64 n_1, slice x.g.a x.g.n x.g.cap] = [int i64 x_9.v, slice x_9.a x_9.n x_9.cap] ∧
 ([] : List Atom) = [] ∧
 (IsSrc 1 (ints x_9.xs) x_9.a x_9.n ∧ x_9.n * 8 ≤ 140737488351232) ∧
 Srcd (Atom.pred (rest [(0, Atom.cells x_6.b (chS x.c x.w) 28), (1, Atom.cells x_6.b3 [slice x.g.a x.g.n x.g.cap, slice x.s.a x.s.n x.s.cap, slice x.m.a x.m.n x.m.cap, string x.name, bool x.ev, slice x.hs.a x.hs.n x.hs.cap] 68), (2, x_6.r.A), (3, F)] [])) x_9.a (ints x_9.xs) ∧
 ∀ (y : Unit),
 True →
 Br (!memB x_9.xs x_9.v) (Done (mvC fun (c : ChD) => newB c = true ∧ EvOk c) x F (Ending.returned (bool false)) [(0, Atom.cells x_6.b (chS x.c x.w) 28), (1, Atom.cells x_6.b3 [slice x.g.a x.g.n x.g.cap, slice x.s.a x.s.n x.s.cap, slice x.m.a x.m.n x.m.cap, string x.name, bool x.ev, slice x.hs.a x.hs.n x.hs.cap] 68), (2, x_6.r.A), (3, F)])
 (Same ⟨x_6.b, 3, none⟩ x_6.b ∧
 Same ⟨x_6.b, 4, none⟩ x_6.b ∧
 QOpOk Try.prog (opIn Try.f10 11 28) (ixQ 6) ∧
 ∃ (x_10 : IxQX),
 [slice x.w.vt.a x.w.vt.n x.w.vt.cap, int i64 n] = [slice (some ⟨x_10.b, x_10.o, none⟩) x_10.len x_10.cap, int i64 x_10.n] ∧
 ((0 : Int) ≤ x_10.n ∧ x_10.n < (↑x_10.len : Int)) ∧
 ∃ (n_2 : Int),
 Look F ⟨x_10.b, x_10.o + x_10.n.toNat * 6, none⟩ (int i64 n_2) ∧
 QOpOk Try.prog (opIn Try.f10 11 31) (ixQ 13) ∧
 ∃ (x_11 : IxQX),
 [slice x.w.vs.a x.w.vs.n x.w.vs.cap, int i64 n_2] = [slice (some ⟨x_11.b, x_11.o, none⟩) x_11.len x_11.cap, int i64 x_11.n] ∧
 ((0 : Int) ≤ x_11.n ∧ x_11.n < (↑x_11.len : Int)) ∧
 ∃ (a : Option Addr),
 ∃ (l : Nat),
 ∃ (c : Nat),
 Look F ⟨x_11.b, x_11.o + x_11.n.toNat * 13 + 7, none⟩ (slice a l c) ∧
 FnOk Try.prog 35 amC ∧
 true = true ∧
 ∃ (x_12 : InX),
 [int i64 n, slice a l c] = [int i64 x_12.v, slice x_12.a x_12.n x_12.cap] ∧
 ([] : List Atom) = [] ∧
 (IsSrc 1 (ints x_12.xs) x_12.a x_12.n ∧ x_12.n * 8 ≤ 140737488351232) ∧
 Srcd (Atom.pred (rest [(0, Atom.cells x_6.b (chS x.c x.w) 28), (1, Atom.cells x_6.b3 [slice x.g.a x.g.n x.g.cap, slice x.s.a x.s.n x.s.cap, slice x.m.a x.m.n x.m.cap, string x.name, bool x.ev, slice x.hs.a x.hs.n x.hs.cap] 68), (2, x_6.r.A), (3, F)] [])) x_12.a (ints x_12.xs) ∧
 ∀ (y : Unit),
 True →
 Br (!memB x_12.xs x_12.v) (Done (mvC fun (c : ChD) => newB c = true ∧ EvOk c) x F (Ending.returned (bool false)) [(0, Atom.cells x_6.b (chS x.c x.w) 28), (1, Atom.cells x_6.b3 [slice x.g.a x.g.n x.g.cap, slice x.s.a x.s.n x.s.cap, slice x.m.a x.m.n x.m.cap, string x.name, bool x.ev, slice x.hs.a x.hs.n x.hs.cap] 68), (2, x_6.r.A), (3, F)])
 (∃ (n_3 : Nat × Int),
 (Same ⟨x_6.b3, 4, none⟩ x_6.b3 ∧
 Br (!x.ev)
 (Same ⟨x_6.b, 4, none⟩ x_6.b ∧
 QOpOk Try.prog (opIn Try.f10 13 7) (ixQ 6) ∧
 ∃ (x_13 : IxQX),
 [slice x.w.vt.a x.w.vt.n x.w.vt.cap, int i64 n] = [slice (some ⟨x_13.b, x_13.o, none⟩) x_13.len x_13.cap, int i64 x_13.n] ∧
 ((0 : Int) ≤ x_13.n ∧ x_13.n < (↑x_13.len : Int)) ∧
 ∃ (a : Option Addr),
 ∃ (l : Nat),
 ∃ (c : Nat),
 Look F ⟨x_13.b, x_13.o + x_13.n.toNat * 6 + 1, none⟩ (slice a l c) ∧
 ∃ (x_14 : FtI),
 (FtQ x F x_14 ∧ (x_14.i, x_14.t) = n_3) ∧
 (pointer (some ⟨x_6.b, 0, none⟩) = pointer (some ⟨x_14.b, 0, none⟩) ∧ pointer (some ⟨x_6.b3, 0, none⟩) = pointer (some ⟨x_14.b3, 0, none⟩) ∧ int i64 n = int i64 x_14.t ∧ bool ((↑l : Int) == (0 : Int)) = bool (mtF x x_14.t 0) ∧ slice x_6.r.a x_6.r.n x_6.r.cap = slice x_14.r.a x_14.r.n x_14.r.cap ∧ int i64 (↑x_6.r.n : Int) = int i64 (↑x_14.r.n : Int) ∧ int i64 (↑x_6.i : Int) = int i64 (↑x_14.i : Int) ∧ True) ∧
 Ent [(0, Atom.cells x_6.b (chS x.c x.w) 28), (1, Atom.cells x_6.b3 [slice x.g.a x.g.n x.g.cap, slice x.s.a x.s.n x.s.cap, slice x.m.a x.m.n x.m.cap, string x.name, bool x.ev, slice x.hs.a x.hs.n x.hs.cap] 68), (2, x_6.r.A), (3, F)]
 [(0, Atom.cells x_14.b (chS x.c x.w) 28), (1, Atom.cells x_14.b3 [slice x.g.a x.g.n x.g.cap, slice x.s.a x.s.n x.s.cap, slice x.m.a x.m.n x.m.cap, string x.name, bool x.ev, slice x.hs.a x.hs.n x.hs.cap] 68), (2, x_14.r.A), (3, F)])
 (∃ (x_13 : FtI),
 (FtQ x F x_13 ∧ (x_13.i, x_13.t) = n_3) ∧
 (pointer (some ⟨x_6.b, 0, none⟩) = pointer (some ⟨x_13.b, 0, none⟩) ∧ pointer (some ⟨x_6.b3, 0, none⟩) = pointer (some ⟨x_13.b3, 0, none⟩) ∧ int i64 n = int i64 x_13.t ∧ bool false = bool (mtF x x_13.t 0) ∧ slice x_6.r.a x_6.r.n x_6.r.cap = slice x_13.r.a x_13.r.n x_13.r.cap ∧ int i64 (↑x_6.r.n : Int) = int i64 (↑x_13.r.n : Int) ∧ int i64 (↑x_6.i : Int) = int i64 (↑x_13.i : Int) ∧ True) ∧
 Ent [(0, Atom.cells x_6.b (chS x.c x.w) 28), (1, Atom.cells x_6.b3 [slice x.g.a x.g.n x.g.cap, slice x.s.a x.s.n x.s.cap, slice x.m.a x.m.n x.m.cap, string x.name, bool x.ev, slice x.hs.a x.hs.n x.hs.cap] 68), (2, x_6.r.A), (3, F)]
 [(0, Atom.cells x_13.b (chS x.c x.w) 28), (1, Atom.cells x_13.b3 [slice x.g.a x.g.n x.g.cap, slice x.s.a x.s.n x.s.cap, slice x.m.a x.m.n x.m.cap, string x.name, bool x.ev, slice x.hs.a x.hs.n x.hs.cap] 68), (2, x_13.r.A), (3, F)])) ∧
 ∀ (x_13 : FtI) (js : Nat → Value),
 FtQ x F x_13 ∧ (x_13.i, x_13.t) = n_3 →
 Same ⟨x_13.b, 4, none⟩ x_13.b ∧
 QOpOk Try.prog (opIn Try.f10 14 3) (ixQ 6) ∧
 ∃ (x_14 : IxQX),
 [slice x.w.vt.a x.w.vt.n x.w.vt.cap, int i64 x_13.t] = [slice (some ⟨x_14.b, x_14.o, none⟩) x_14.len x_14.cap, int i64 x_14.n] ∧
 ((0 : Int) ≤ x_14.n ∧ x_14.n < (↑x_14.len : Int)) ∧
 ∃ (a : Option Addr),
 ∃ (l : Nat),
 ∃ (c : Nat),
 Look F ⟨x_14.b, x_14.o + x_14.n.toNat * 6 + 1, none⟩ (slice a l c) ∧
 ∃ (n : Nat × Int),
 (∃ (x_15 : FtI),
 (FtQ x F x_15 ∧ (x_15.i, x_15.t) = n) ∧
 (pointer (some ⟨x_13.b, 0, none⟩) = pointer (some ⟨x_15.b, 0, none⟩) ∧
 pointer (some ⟨x_13.b3, 0, none⟩) = pointer (some ⟨x_15.b3, 0, none⟩) ∧
 int i64 x_13.t = int i64 x_15.t ∧ bool (mtF x x_13.t 0) = bool (mtF x x_15.t x_15.k) ∧ slice x_13.r.a x_13.r.n x_13.r.cap = slice x_15.r.a x_15.r.n x_15.r.cap ∧ int i64 (↑x_13.r.n : Int) = int i64 (↑x_15.r.n : Int) ∧ int i64 (↑x_13.i : Int) = int i64 (↑x_15.i : Int) ∧ slice a l c = slice x_15.ka (evs x.c x_15.t).length x_15.kc ∧ int i64 (↑l : Int) = int i64 (↑(evs x.c x_15.t).length : Int) ∧ int i64 (0 : Int) = int i64 (↑x_15.k : Int) ∧ True) ∧
 Ent [(0, Atom.cells x_13.b (chS x.c x.w) 28), (1, Atom.cells x_13.b3 [slice x.g.a x.g.n x.g.cap, slice x.s.a x.s.n x.s.cap, slice x.m.a x.m.n x.m.cap, string x.name, bool x.ev, slice x.hs.a x.hs.n x.hs.cap] 68), (2, x_13.r.A), (3, F)]
 [(0, Atom.cells x_15.b (chS x.c x.w) 28), (1, Atom.cells x_15.b3 [slice x.g.a x.g.n x.g.cap, slice x.s.a x.s.n x.s.cap, slice x.m.a x.m.n x.m.cap, string x.name, bool x.ev, slice x.hs.a x.hs.n x.hs.cap] 68), (2, x_15.r.A), (3, F)]) ∧
 ∀ (x_15 : FtI) (js : Nat → Value),
 FtQ x F x_15 ∧ (x_15.i, x_15.t) = n →
 Br (decide ((↑x_15.k : Int) < (↑(evs x.c x_15.t).length : Int)))
 (QOpOk Try.prog (opIn Try.f10 16 0) (ixQ 1) ∧
 ∃ (x_16 : IxQX),
 [slice x_15.ka (evs x.c x_15.t).length x_15.kc, int i64 (↑x_15.k : Int)] = [slice (some ⟨x_16.b, x_16.o, none⟩) x_16.len x_16.cap, int i64 x_16.n] ∧
 ((0 : Int) ≤ x_16.n ∧ x_16.n < (↑x_16.len : Int)) ∧
 ∃ (s : ByteArray),
 Look F ⟨x_16.b, x_16.o + x_16.n.toNat * 1, none⟩ (string s) ∧
 Br (mtF x x_15.t x_15.k)
 (((-9223372036854775808 : Int) ≤ (↑x_15.k : Int) + (1 : Int) ∧ (↑x_15.k : Int) + (1 : Int) ≤ (9223372036854775807 : Int)) ∧
 ∃ (y : FtI),
 (FtQ x F y ∧ (y.i, y.t) = n) ∧
 (pointer (some ⟨x_15.b, 0, none⟩) = pointer (some ⟨y.b, 0, none⟩) ∧
 pointer (some ⟨x_15.b3, 0, none⟩) = pointer (some ⟨y.b3, 0, none⟩) ∧
 int i64 x_15.t = int i64 y.t ∧ bool true = bool (mtF x y.t y.k) ∧ slice x_15.r.a x_15.r.n x_15.r.cap = slice y.r.a y.r.n y.r.cap ∧ int i64 (↑x_15.r.n : Int) = int i64 (↑y.r.n : Int) ∧ int i64 (↑x_15.i : Int) = int i64 (↑y.i : Int) ∧ slice x_15.ka (evs x.c x_15.t).length x_15.kc = slice y.ka (evs x.c y.t).length y.kc ∧ int i64 (↑(evs x.c x_15.t).length : Int) = int i64 (↑(evs x.c y.t).length : Int) ∧ int i64 ((↑x_15.k : Int) + (1 : Int)) = int i64 (↑y.k : Int) ∧ True) ∧
 Ent [(0, Atom.cells x_15.b (chS x.c x.w) 28), (1, Atom.cells x_15.b3 [slice x.g.a x.g.n x.g.cap, slice x.s.a x.s.n x.s.cap, slice x.m.a x.m.n x.m.cap, string x.name, bool x.ev, slice x.hs.a x.hs.n x.hs.cap] 68), (2, x_15.r.A), (3, F)]
 [(0, Atom.cells y.b (chS x.c x.w) 28), (1, Atom.cells y.b3 [slice x.g.a x.g.n x.g.cap, slice x.s.a x.s.n x.s.cap, slice x.m.a x.m.n x.m.cap, string x.name, bool x.ev, slice x.hs.a x.hs.n x.hs.cap] 68), (2, y.r.A), (3, F)] ∧
 (evs x.c y.t).length - y.k < (evs x.c x_15.t).length - x_15.k)
 (Same ⟨x_15.b3, 4, none⟩ x_15.b3 ∧
 Br x.ev
 (Same ⟨x_15.b3, 3, none⟩ x_15.b3 ∧
 FnOk Try.prog 39 mtC ∧
 true = true ∧
 ∃ (x_17 : StrX),
 [string s, string x.name] = [string x_17.a, string x_17.b] ∧
 ([] : List Atom) = [] ∧
 x_17.a.size ≤ 4611686018427387904 ∧
 True ∧
 ∀ (y : Unit),
 True →
 ((-9223372036854775808 : Int) ≤ (↑x_15.k : Int) + (1 : Int) ∧ (↑x_15.k : Int) + (1 : Int) ≤ (9223372036854775807 : Int)) ∧
 ∃ (y : FtI),
 (FtQ x F y ∧ (y.i, y.t) = n) ∧
 (pointer (some ⟨x_15.b, 0, none⟩) = pointer (some ⟨y.b, 0, none⟩) ∧
 pointer (some ⟨x_15.b3, 0, none⟩) = pointer (some ⟨y.b3, 0, none⟩) ∧
 int i64 x_15.t = int i64 y.t ∧
 bool (matchB x_17.a x_17.b) = bool (mtF x y.t y.k) ∧ slice x_15.r.a x_15.r.n x_15.r.cap = slice y.r.a y.r.n y.r.cap ∧ int i64 (↑x_15.r.n : Int) = int i64 (↑y.r.n : Int) ∧ int i64 (↑x_15.i : Int) = int i64 (↑y.i : Int) ∧ slice x_15.ka (evs x.c x_15.t).length x_15.kc = slice y.ka (evs x.c y.t).length y.kc ∧ int i64 (↑(evs x.c x_15.t).length : Int) = int i64 (↑(evs x.c y.t).length : Int) ∧ int i64 ((↑x_15.k : Int) + (1 : Int)) = int i64 (↑y.k : Int) ∧ True) ∧
 Ent [(0, Atom.cells x_15.b (chS x.c x.w) 28), (1, Atom.cells x_15.b3 [slice x.g.a x.g.n x.g.cap, slice x.s.a x.s.n x.s.cap, slice x.m.a x.m.n x.m.cap, string x.name, bool x.ev, slice x.hs.a x.hs.n x.hs.cap] 68), (2, x_15.r.A), (3, F)]
 [(0, Atom.cells y.b (chS x.c x.w) 28), (1, Atom.cells y.b3 [slice x.g.a x.g.n x.g.cap, slice x.s.a x.s.n x.s.cap, slice x.m.a x.m.n x.m.cap, string x.name, bool x.ev, slice x.hs.a x.hs.n x.hs.cap] 68), (2, y.r.A), (3, F)] ∧
 (evs x.c y.t).length - y.k < (evs x.c x_15.t).length - x_15.k)
 (((-9223372036854775808 : Int) ≤ (↑x_15.k : Int) + (1 : Int) ∧ (↑x_15.k : Int) + (1 : Int) ≤ (9223372036854775807 : Int)) ∧
 ∃ (y : FtI),
 (FtQ x F y ∧ (y.i, y.t) = n) ∧
 (pointer (some ⟨x_15.b, 0, none⟩) = pointer (some ⟨y.b, 0, none⟩) ∧
 pointer (some ⟨x_15.b3, 0, none⟩) = pointer (some ⟨y.b3, 0, none⟩) ∧
 int i64 x_15.t = int i64 y.t ∧ bool false = bool (mtF x y.t y.k) ∧ slice x_15.r.a x_15.r.n x_15.r.cap = slice y.r.a y.r.n y.r.cap ∧ int i64 (↑x_15.r.n : Int) = int i64 (↑y.r.n : Int) ∧ int i64 (↑x_15.i : Int) = int i64 (↑y.i : Int) ∧ slice x_15.ka (evs x.c x_15.t).length x_15.kc = slice y.ka (evs x.c y.t).length y.kc ∧ int i64 (↑(evs x.c x_15.t).length : Int) = int i64 (↑(evs x.c y.t).length : Int) ∧ int i64 ((↑x_15.k : Int) + (1 : Int)) = int i64 (↑y.k : Int) ∧ True) ∧
 Ent [(0, Atom.cells x_15.b (chS x.c x.w) 28), (1, Atom.cells x_15.b3 [slice x.g.a x.g.n x.g.cap, slice x.s.a x.s.n x.s.cap, slice x.m.a x.m.n x.m.cap, string x.name, bool x.ev, slice x.hs.a x.hs.n x.hs.cap] 68), (2, x_15.r.A), (3, F)]
 [(0, Atom.cells y.b (chS x.c x.w) 28), (1, Atom.cells y.b3 [slice x.g.a x.g.n x.g.cap, slice x.s.a x.s.n x.s.cap, slice x.m.a x.m.n x.m.cap, string x.name, bool x.ev, slice x.hs.a x.hs.n x.hs.cap] 68), (2, y.r.A), (3, F)] ∧
 (evs x.c y.t).length - y.k < (evs x.c x_15.t).length - x_15.k)))
 (Br (!mtF x x_15.t x_15.k)
 (Done (mvC fun (c : ChD) => newB c = true ∧ EvOk c) x F (Ending.returned (bool false)) [(0, Atom.cells x_15.b (chS x.c x.w) 28), (1, Atom.cells x_15.b3 [slice x.g.a x.g.n x.g.cap, slice x.s.a x.s.n x.s.cap, slice x.m.a x.m.n x.m.cap, string x.name, bool x.ev, slice x.hs.a x.hs.n x.hs.cap] 68), (2, x_15.r.A), (3, F)])
 (((-9223372036854775808 : Int) ≤ (↑x_15.i : Int) + (1 : Int) ∧ (↑x_15.i : Int) + (1 : Int) ≤ (9223372036854775807 : Int)) ∧
 ∃ (y : FtI),
 FtP x y ∧
 (pointer (some ⟨x_15.b, 0, none⟩) = pointer (some ⟨y.b, 0, none⟩) ∧ pointer (some ⟨x_15.b3, 0, none⟩) = pointer (some ⟨y.b3, 0, none⟩) ∧ slice x_15.r.a x_15.r.n x_15.r.cap = slice y.r.a y.r.n y.r.cap ∧ int i64 (↑x_15.r.n : Int) = int i64 (↑y.r.n : Int) ∧ int i64 ((↑x_15.i : Int) + (1 : Int)) = int i64 (↑y.i : Int) ∧ True) ∧
 Ent [(0, Atom.cells x_15.b (chS x.c x.w) 28), (1, Atom.cells x_15.b3 [slice x.g.a x.g.n x.g.cap, slice x.s.a x.s.n x.s.cap, slice x.m.a x.m.n x.m.cap, string x.name, bool x.ev, slice x.hs.a x.hs.n x.hs.cap] 68), (2, x_15.r.A), (3, F)]
 [(0, Atom.cells y.b (chS x.c x.w) 28), (1, Atom.cells y.b3 [slice x.g.a x.g.n x.g.cap, slice x.s.a x.s.n x.s.cap, slice x.m.a x.m.n x.m.cap, string x.name, bool x.ev, slice x.hs.a x.hs.n x.hs.cap] 68), (2, y.r.A), (3, F)] ∧
 (selV x.c x.mem x.cf x.name x.ev).length - y.i < (selV x.c x.mem x.cf x.name x.ev).length - x_6.i)))))))
 (Done (mvC fun (c : ChD) => newB c = true ∧ EvOk c) x F (Ending.returned (bool true)) [(0, Atom.cells x_6.b (chS x.c x.w) 28), (1, Atom.cells x_6.b3 [slice x.g.a x.g.n x.g.cap, slice x.s.a x.s.n x.s.cap, slice x.m.a x.m.n x.m.cap, string x.name, bool x.ev, slice x.hs.a x.hs.n x.hs.cap] 68), (2, x_6.r.A), (3, F)]))) := by
  obtain ⟨c, w, ⟨ga, gn, gc⟩, cf, ⟨sa, sn, sc⟩, ts, ⟨ma, mn, mc⟩, mem, name, ev, hs⟩ := x
  obtain ⟨⟨hnew, hev⟩, hok⟩ := hc
  replace hr : MvIn F _ := hr
  obtain ⟨g1, g2, s1, s2⟩ := hok
  dsimp only at hnew hev g1 g2 s1 s2 ⊢
  have hpl := (newB_spec.1 hnew).1
  have htl := (newB_spec.1 hnew).2.1
  obtain ⟨hch, hcf, hts, hm⟩ := id hr
  dsimp only at hch hcf hts hm
  obtain ⟨hw, hsr⟩ := sel_ch hch
  have hwn := hw.sn
  have htn := hw.tn
  intro b b3
  refine ⟨aw15_ok, rfl, (), rfl, rfl, trivial, trivial, fun _ _ => ?_⟩
  iterate 14 refine ⟨⟨rfl, rfl⟩, ?_⟩
  refine ⟨lge_ok, rfl, ⟨c, w, ⟨ga, gn, gc⟩, cf, ⟨sa, sn, sc⟩, ts, ⟨ma, mn, mc⟩, mem, name, ev, hs⟩, rfl, rfl, trivial, hr.sub (sub_rest 0 (by simp) rfl), fun y _ => br_intro (fun _ => ⟨(), trivial, rfl, Ent.pick [0] rfl rfl⟩) (fun _ => ?_)⟩
  iterate 8 refine ⟨⟨rfl, rfl⟩, ?_⟩
  refine ⟨newY_ok, rfl, ⟨c, w⟩, rfl, rfl, hnew, hch.sub (sub_rest 0 (by simp) rfl), fun z hz => ?_⟩
  replace hz : LatIn z.G z.b c := hz
  refine ⟨⟨rfl, rfl⟩, leg_ok, rfl, ⟨z.b, c, ga, gn, gc, cf⟩, rfl, rfl, ⟨g1, g2⟩, ⟨hz.sub (sub_rest 6010 (by simp) rfl), Srcd.sub (A := F) (sub_rest 0 (by simp) rfl) hcf⟩, fun _ _ => br_intro (fun _ => ⟨(), trivial, rfl, Ent.pick [0] rfl rfl⟩) (fun hl => ?_)⟩
  have hL : LegalP c cf := legal_spec hpl (by simpa using hl)
  iterate 4 refine ⟨⟨rfl, rfl⟩, ?_⟩
  refine ⟨slc_ok, rfl, ⟨z.b, c, ⟨ga, gn, gc⟩, cf, ⟨ma, mn, mc⟩, mem, name, ev⟩, rfl, rfl, ⟨hnew, hev, g1, g2⟩, ⟨hz.sub (sub_rest 6010 (by simp) rfl), Srcd.sub (A := F) (sub_rest 0 (by simp) rfl) hcf, hm.sub (sub_rest 0 (by simp) rfl)⟩, fun r hr0 => ?_⟩
  replace hr0 : IsRow 3 1 (ints (selV c mem cf name ev)) r := hr0
  have hfit := selV_fit hnew hL (mem := mem) (name := name) (ev := ev)
  have hkl : (selV c mem cf name ev).length * 8 ≤ 140737488351232 := by
    have h1 := resS_len c mem cf (askV c name ev cf (nS c)) ([], [])
    have h2 := (askV_good hnew name ev cf (nS c) (Nat.le_refl _)).len
    simp only [List.length_nil] at h1
    unfold selV resV
    unfold resS
    omega
  refine ⟨⟨⟨b, b3, r, 0, 0, none, 0, 0⟩, ⟨hL, hr0, Nat.zero_le _⟩, ⟨rfl, rfl, rfl, rfl, rfl, trivial⟩, Ent.pick [1000, 1010, 9090, 0] rfl rfl⟩, ?_⟩
  clear hr0 hz hl r z b b3
  rintro ⟨b, b3, r, i, t0, ka0, kc0, k0⟩ js ⟨-, hrow, hi⟩
  dsimp only at hrow hi ⊢
  have hrl : r.n = (selV c mem cf name ev).length := by have := hrow.len; rw [ints_length] at this; omega
  refine br_decide (fun hlt => ?_) (fun hge => ⟨(), trivial, rfl, Ent.pick [3] rfl rfl⟩)
  obtain ⟨t, ht⟩ : ∃ t, (selV c mem cf name ev)[i]? = some t := ⟨_, List.getElem?_eq_getElem (by omega)⟩
  obtain ⟨hT, hsc, hS, htr, hhit⟩ := hfit t (List.mem_of_getElem? ht)
  obtain ⟨p, rfl, hp⟩ := isT_spec hT
  obtain ⟨q, hq, hqn⟩ := isS_spec hS
  obtain ⟨b5, hb5⟩ := hrow.at0 (by omega)
  have elook : Look r.A ⟨b5, 0 + (i : Int).toNat * 1, none⟩ (.int .i64 p) := by
    have hsr := hrow.srcd
    rw [hb5] at hsr
    rw [show 0 + (i : Int).toNat * 1 = 0 + i by omega]
    exact hsr.look (ints_get ht)
  obtain ⟨c0, p0, ec0, L0⟩ := hsr p hp
  obtain ⟨c1, p1, ka1, kc1, ec1, L1, I1⟩ := hw.st q hqn
  obtain ⟨c2, p2, ka2, kc2, ec2, L2, I2⟩ := hw.tr p hp
  obtain ⟨m1, m2, m3, m4, m5⟩ := I1.srcd
  refine ⟨ixq_ok 1 rfl rfl rfl rfl, ⟨b5, 0, r.n, r.cap, i⟩, by rw [hb5], by dsimp only; omega, p, elook, rfl, br_decide (fun h1 => by omega) (fun _ => ⟨⟨rfl, rfl⟩, br_decide (fun h2 => by omega) (fun _ => ⟨⟨rfl, rfl⟩, ixq_ok 6 rfl rfl rfl rfl, ⟨c0, p0, w.vt.n, w.vt.cap, p⟩, by rw [ec0], by dsimp only; omega, srcT c p, L0, ⟨rfl, rfl⟩, am_ok, rfl, ⟨ga, gn, gc, cf, srcT c p⟩, rfl, rfl, ⟨g1, g2⟩, Srcd.sub (A := F) (sub_rest 3 (by simp) rfl) hcf, fun _ _ => br_intro (fun h3 => ?_) (fun _ => ⟨⟨rfl, rfl⟩, ⟨rfl, rfl⟩, ixq_ok 6 rfl rfl rfl rfl, ⟨c0, p0, w.vt.n, w.vt.cap, p⟩, by rw [ec0], by dsimp only; omega, srcT c p, L0, ixq_ok 13 rfl rfl rfl rfl, ⟨c1, p1, w.vs.n, w.vs.cap, q⟩, by rw [ec1, hq], by dsimp only; omega, _, _, _, L1, am_ok, rfl, ⟨ka1, _, kc1, strans c q, p⟩, rfl, rfl, ⟨m1, m3⟩, Srcd.sub (A := F) (sub_rest 3 (by simp) rfl) m2, fun _ _ => br_intro (fun h4 => ?_) (fun _ => ?_)⟩)⟩)⟩)⟩
  · dsimp only at h3
    rw [memB_iff.2 hsc] at h3; cases h3
  · dsimp only at h4
    rw [hq] at htr
    rw [memB_iff.2 htr] at h4; cases h4
  have hevl : ∀ e ∈ evs c p, e.size ≤ 4611686018427387904 := fun e he => by
    obtain ⟨tr, htr2⟩ : ∃ tr, c.trs[p]? = some tr := ⟨_, List.getElem?_eq_getElem hp⟩
    have e3 : evs c p = tr.events := by unfold evs; rw [Int.toNat_natCast, htr2]; rfl
    rw [e3] at he
    exact hev tr (List.mem_of_getElem? htr2) e he
  have Q0 : ∀ k, k ≤ (evs c p).length → FtQ ⟨c, w, ⟨ga, gn, gc⟩, cf, ⟨sa, sn, sc⟩, ts, ⟨ma, mn, mc⟩, mem, name, ev, hs⟩ F ⟨b, b3, r, i, p, ka2, kc2, k⟩ := fun k hk => ⟨hL, hrow, ht, I2, hk⟩
  refine ⟨(i, (p : Int)), ⟨⟨rfl, rfl⟩, br_intro (fun h5 => ?_) (fun h5 => ?_)⟩, ?_⟩
  · refine ⟨⟨rfl, rfl⟩, ixq_ok 6 rfl rfl rfl rfl, ⟨c2, p2, w.vt.n, w.vt.cap, p⟩, by rw [ec2], by dsimp only; omega, _, _, _, L2, _, ⟨Q0 0 (Nat.zero_le _), rfl⟩, ⟨rfl, rfl, rfl, ?_, rfl, rfl, rfl, trivial⟩, Ent.pick [0, 1, 2, 3] rfl rfl⟩
    have h5' : ev = false := by simpa using h5
    unfold mtF
    dsimp only
    rw [h5']
    cases evs c p <;> simp
    omega
  · refine ⟨_, ⟨Q0 0 (Nat.zero_le _), rfl⟩, ⟨rfl, rfl, rfl, ?_, rfl, rfl, rfl, trivial⟩, Ent.pick [0, 1, 2, 3] rfl rfl⟩
    have h5' : ev = true := by simpa using h5
    unfold mtF
    dsimp only
    rw [h5']; rfl
  clear Q0 elook hb5 b5 hrl hlt
  clear hrow r b b3
  rintro ⟨b, b3, r, i', t', ka', kc', k'⟩ js ⟨⟨-, hrow, -, -, -⟩, ej⟩
  dsimp only at hrow ej ⊢
  obtain ⟨rfl, rfl⟩ : i' = i ∧ t' = (p : Int) := by simpa using ej
  have Q1 : ∀ k, k ≤ (evs c p).length → FtQ ⟨c, w, ⟨ga, gn, gc⟩, cf, ⟨sa, sn, sc⟩, ts, ⟨ma, mn, mc⟩, mem, name, ev, hs⟩ F ⟨b, b3, r, i', p, ka2, kc2, k⟩ := fun k hk => ⟨hL, hrow, ht, I2, hk⟩
  refine ⟨⟨rfl, rfl⟩, ixq_ok 6 rfl rfl rfl rfl, ⟨c2, p2, w.vt.n, w.vt.cap, p⟩, by rw [ec2], by dsimp only; omega, _, _, _, L2, (i', (p : Int)), ⟨_, ⟨Q1 0 (Nat.zero_le _), rfl⟩, ⟨rfl, rfl, rfl, rfl, rfl, rfl, rfl, rfl, rfl, rfl, trivial⟩, Ent.pick [0, 1, 2, 3] rfl rfl⟩, ?_⟩
  clear Q1 hrow r b b3 k' ka' kc' ej
  rintro ⟨b, b3, r, i, t', ka, kc, k⟩ js ⟨⟨-, hrow, -, hI, hk⟩, ej⟩
  dsimp only at hrow hI hk ej ⊢
  obtain ⟨rfl, rfl⟩ : i = i' ∧ t' = (p : Int) := by simpa using ej
  obtain ⟨n1, n2, n3, n4⟩ := StrsIn.srcd hI
  have Q2 : ∀ k, k ≤ (evs c p).length → FtQ ⟨c, w, ⟨ga, gn, gc⟩, cf, ⟨sa, sn, sc⟩, ts, ⟨ma, mn, mc⟩, mem, name, ev, hs⟩ F ⟨b, b3, r, i, p, ka, kc, k⟩ := fun k hk => ⟨hL, hrow, ht, hI, hk⟩
  refine br_decide (fun hlt => ?_) (fun hge => ?_)
  · obtain ⟨u, hu⟩ : ∃ u, (evs c p)[k]? = some u := ⟨_, List.getElem?_eq_getElem (by omega)⟩
    obtain ⟨b6, o6, e6⟩ := n1.some (by omega)
    have elook : Look F ⟨b6, o6 + (k : Int).toNat * 1, none⟩ (.string u) := by
      rw [e6] at n2
      rw [show o6 + (k : Int).toNat * 1 = o6 + k by omega]
      exact n2.look (txts_get hu)
    have htk : mtF ⟨c, w, ⟨ga, gn, gc⟩, cf, ⟨sa, sn, sc⟩, ts, ⟨ma, mn, mc⟩, mem, name, ev, hs⟩ p (k + 1) = (mtF ⟨c, w, ⟨ga, gn, gc⟩, cf, ⟨sa, sn, sc⟩, ts, ⟨ma, mn, mc⟩, mem, name, ev, hs⟩ p k || (ev && matchB u name)) := by
      unfold mtF
      dsimp only
      rw [List.take_add_one, hu, List.any_append]
      cases ev <;> simp
    refine ⟨ixq_ok 1 rfl rfl rfl rfl, ⟨b6, o6, _, kc, k⟩, by rw [e6], by dsimp only; omega, u, elook, br_intro (fun h6 => ⟨⟨by omega, by omega⟩, _, ⟨Q2 (k + 1) (by omega), rfl⟩, ⟨rfl, rfl, rfl, ?_, rfl, rfl, rfl, rfl, rfl, rfl, trivial⟩, Ent.pick [0, 1, 2, 3] rfl rfl, by dsimp only; omega⟩) (fun h6 => ⟨⟨rfl, rfl⟩, br_intro (fun h7 => ⟨⟨rfl, rfl⟩, mt_ok, rfl, ⟨u, name⟩, rfl, rfl, hevl u (List.mem_of_getElem? hu), trivial, fun _ _ => ⟨⟨by omega, by omega⟩, _, ⟨Q2 (k + 1) (by omega), rfl⟩, ⟨rfl, rfl, rfl, ?_, rfl, rfl, rfl, rfl, rfl, rfl, trivial⟩, Ent.pick [0, 1, 2, 3] rfl rfl, by dsimp only; omega⟩⟩) (fun h7 => ⟨⟨by omega, by omega⟩, _, ⟨Q2 (k + 1) (by omega), rfl⟩, ⟨rfl, rfl, rfl, ?_, rfl, rfl, rfl, rfl, rfl, rfl, trivial⟩, Ent.pick [0, 1, 2, 3] rfl rfl, by dsimp only; omega⟩)⟩)⟩
    · dsimp only
      rw [htk, h6]; rfl
    · dsimp only
      rw [htk, h6, h7]; rfl
    · dsimp only
      rw [htk, h6, h7]; rfl
  · have hF : mtF ⟨c, w, ⟨ga, gn, gc⟩, cf, ⟨sa, sn, sc⟩, ts, ⟨ma, mn, mc⟩, mem, name, ev, hs⟩ p k = true := by
      unfold mtF
      dsimp only
      rw [List.take_of_length_le (by omega)]
      unfold hitB fitB at hhit
      cases ev with
      | true => simpa using hhit
      | false => simpa using hhit
    have hil := (List.getElem?_eq_some_iff.1 ht).1
    rw [hF]
    exact br_intro (fun h1 => by cases h1) (fun _ => ⟨⟨by omega, by omega⟩, ⟨b, b3, r, i + 1, 0, none, 0, 0⟩, ⟨hL, hrow, by dsimp only; omega⟩, ⟨rfl, rfl, rfl, rfl, rfl, trivial⟩, Ent.pick [0, 1, 2, 3] rfl rfl, by dsimp only; omega⟩)
set_option maxRecDepth 100000 in
theorem ftY_ok : FnOk Try.prog 10 (mvC fun c => newB c = true ∧ EvOk c) :=
  fnOk (N := 122) (by kernel_rfl) Try.func10 rfl (by kernel_rfl) (fun _ => Nat.le_of_ble_eq_true rfl) ftY_H [] fun x F hc hr => Eq.mpr (by kernel_rfl) (ftY_vc x F hc hr)
end Go.Proofs.Ytkmdgnbfojkcnaa
