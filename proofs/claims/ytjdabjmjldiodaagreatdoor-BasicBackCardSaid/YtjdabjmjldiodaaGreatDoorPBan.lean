/- A part of the proof that pennantlaw23.BasicBack answers true at every input. -/
import Derived.Test.YtjdabjmjldiodaaGreatDoorPBam
set_option linter.all false
namespace Go.Proofs.YtjdabjmjldiodaaGreatDoor
set_option maxRecDepth 100000
open Go.Value (int slice string bool pointer agg tuple func float iface nilIface)
open Go.IntKind (i64 u8 u64 i32 u32 u16 i8 i16)
open Go.FloatKind (f64)
open Go.Ending (returned panicked)
section
open Go
abbrev prtC : Con where
  X := PzT
  Y := Unit
  args x := [.pointer (some ⟨x.h, 0, none⟩), .string x.w]
  pre x := [ho0 x.h 10000]
  cond x := x.ok
  rdc x F := x.k.K.rd F ∧ Utf F
  rel _ _ := True
  val x _ := .returned (.tuple #[txV x.o, .int .i64 0])
  post x _ := [ho0 x.h 10000]
  rmono x _ _ hs h := ⟨x.k.K.mono h.1 hs, h.2.sub hs⟩
theorem prt_end {z : PtbX} {F : Atom} {I : Imm} {w : World} {R : Ending → World → Prop}
    (hret : ∀ w' J y, Imm.le I J → Sat J (ofL (ptbC.post z y ++ [F])) w' → Env w w' → R (.returned (.tuple #[txV z.x.o, .int .i64 0])) w') :
    ∀ e a' w', Aft 22 I w [capP z.b4 z.b5] ((λe T S => match e with
    | .normal => match ptbL z with | [] => True | _ :: _ => rd Tryz.prog S (resSem pzb T) rhp λv => Done ptbC z F (.returned v) S
    | .ret => rd Tryz.prog S (resSem pzb T) rhp λv => Done ptbC z F (.returned v) S
    | .panic ch => Eqs T (ptbL z) ∧ Done ptbC z F (.panicked ch) S
    | _ => False : Exit → Tm → St → Prop) e) a' w' → bodyPostD Tryz.prog Tryz.f33 R e a' w' := by
  intro e a' w' haft
  obtain ⟨T', S', J, g1, g2, g3, g4, g5, g6⟩ := haft
  have fin : rd Tryz.prog S' (resSem pzb T') rhp (λv => Done ptbC z F (.returned v) S') → Leaves Tryz.prog Tryz.f33 a'.tmps R a'.defers .returning w' := by
    intro g6
    obtain ⟨v, hrun, ⟨⟨y, hy, hv, hent⟩⟩⟩ := rd_sound g4 _ _ _ g6
    obtain ⟨J', hle, hs2⟩ := hent.h J w' g4
    rw [g2]
    refine leaves_cons (by simp) (f := 81) (args := #[pV z.b4, pV z.b5]) (by kernel_rfl) ((catp_idle _ _ _).mono ?_)
    rintro _ _ w2 ⟨rfl, rfl, e2⟩
    replace e2 := e2.symm
    subst e2
    have hres : (results Tryz.f33 a'.tmps).run Tryz.prog w' = .ok v w' := by
      rw [show results Tryz.f33 a'.tmps = results pzb a'.tmps from rfl, results_eq g1]; exact hrun
    exact ⟨v, hres, hv ▸ hret w' J' y (Imm.le_trans g3 hle) hs2 g5⟩
  cases e with
  | normal => exact fin g6
  | ret => exact fin g6
  | panic ch =>
    obtain ⟨hq, ⟨⟨y, hy, hv, hent⟩⟩⟩ := g6
    cases hv
  | _ => exact g6.elim
theorem prt_ok : fo_k 33 prtC := ⟨λx F I w hc hr hs => by
  have hc : x.ok := hc
  refine calls_of_wp_defers Tryz.func33 codp2 ?_
  have hm : Tryz.prog.follows .mixedOrders = true := by kernel_rfl
  have hrel := rel_ent (N := 22) [.pointer (some ⟨x.h, 0, none⟩), .string x.w] (Nat.le_of_ble_eq_true rfl)
  have hA := pta_body x F trivial trivial
  unfold BodyD at hA
  refine wp_cut hm (H := pta_H x F) (y := .region 1 #[] false) (V := (ptaCut x F 1).get rfl) (by kernel_rfl) rfl hA hrel rfl hs (λe a' w' hne haft => ?_) ?_
  · obtain ⟨T', S', J, g1, g2, g3, g4, g5, g6⟩ := haft
    cases e with
    | normal => exact absurd rfl hne
    | ret =>
      obtain ⟨v, hrun, ⟨⟨_, hbad, _, _⟩⟩⟩ := rd_sound g4 _ _ _ g6
      exact hbad.elim
    | panic ch =>
      obtain ⟨_, ⟨⟨_, hbad, _, _⟩⟩⟩ := g6
      exact hbad.elim
    | _ => exact g6.elim
  rintro ⟨b4, b5⟩ js J a w1 - - hrel1 hd1 hle1 hs1 henv1
  refine wp_seq (wp_deferP hrel1 (b4 := b4) (b5 := b5) rfl rfl λT6 a6 hd6 hrel6 hT6 => ?_)
  have hb := ptb_body ⟨x, b4, b5⟩ F hc hr
  unfold BodyD at hb
  have hE := E_cut (V := (ptbCut ⟨x, b4, b5⟩ F 2).get rfl) (by kernel_rfl) rfl (show E _ _ _ (.seq .skip (cTl 2 pzc)) _ _ _ _ from hb) () T6.at trivial
  refine E_sound hm _ _ hE (over_rel hrel6 ⟨(hT6 0 (by decide)).trans rfl, (hT6 1 (by decide)).trans rfl, (hT6 4 (by decide)).trans rfl, (hT6 5 (by decide)).trans rfl, fo_tv⟩) (hd6.trans (by rw [hd1])) (hs1.pick [0, 1, 2, 3] rfl rfl) (prt_end ?_)
  intro w' J' y hle hs' henv
  exact ⟨y, J', fo_tv, rfl, Imm.le_trans hle1 hle, hs', henv1.trans henv⟩⟩
end
section
open Go
def cdL (l : List Nat) : List Nat := l.flatMap cdB
theorem cdL_app (a b : List Nat) : cdL (a ++ b) = cdL a ++ cdL b := List.flatMap_append
theorem cdF_L (s : ByteArray) : ∀ i, i ≤ s.size → cdF s i = btL (cdL ((baL s).take i))
  | 0, _ => rfl
  | i + 1, h => by
    have e : (baL s)[i]? = some (bt s i) := by
      unfold baL bt
      rw [fo_gm, Array.getElem?_toList, Array.getElem?_eq_getElem (show i < s.data.size from h)] <;> rfl
    rw [cdF, cdF_L s i (by omega), btL_app, List.take_add_one, e, Option.toList_some, cdL_app]
    show _ = btL (cdL ((baL s).take i) ++ (cdB (bt s i) ++ []))
    rw [fo_an]
theorem cdV_L (s : ByteArray) : cdV s = btL (cdL (baL s)) := by
  unfold cdV
  rw [cdF_L s _ (fo_nr _), List.take_of_length_le (by rw [baL_len]; omega)]
theorem cdB_all : ∀ c : Fin 256, (∀ b ∈ cdB c.val, b < 256 ∧ b ≠ 38 ∧ b ≠ 61 ∧ b ≠ 63 ∧ 33 ≤ b ∧ b ≤ 126) ∧ (bif cdK c.val then c.val != 43 && c.val != 37 else bif c.val == 32 then true else (sx (hexU (c.val / 16)) == ((c.val / 16 : Nat) : Int)) && (sx (hexU (c.val % 16)) == ((c.val % 16 : Nat) : Int))) = true := by decide +kernel
theorem cdL_all {l : List Nat} (h : Bys l) : ∀ b ∈ cdL l, b < 256 ∧ b ≠ 38 ∧ b ≠ 61 ∧ b ≠ 63 ∧ 33 ≤ b ∧ b ≤ 126 := λb hb => by
  obtain ⟨c, hc, hb⟩ := List.mem_flatMap.1 hb
  exact (cdB_all ⟨c, h c hc⟩).1 b hb
theorem cdL_lt {l : List Nat} (h : Bys l) : Bys (cdL l) := λb hb => (cdL_all h b hb).1
theorem sdF_at (s : ByteArray) : ∀ (l : List Nat) (f i : Nat) (o : List Nat), Bys l → AtB s i (cdL l) → s.size = i + (cdL l).length → s.size < i + f → sdF s f i (btL o) = some (btL (o ++ l))
  | [], f, i, o, _, _, h1, h2 => by
    have h1 : s.size = i := h1
    obtain ⟨f, rfl⟩ : ∃ g, f = g + 1 := ⟨f - 1, by omega⟩
    rw [sdF, fo_df (by omega), fo_cf, fo_an]
  | c :: l, f, i, o, h0, ha, h1, h2 => by
    obtain ⟨f, rfl⟩ : ∃ g, f = g + 1 := ⟨f - 1, by omega⟩
    have hc : c < 256 := h0 c fo_mc
    have h0' : Bys l := λb hb => h0 b (fo_mm _ hb)
    have ha : AtB s i (cdB c ++ cdL l) := ha
    have h1 : s.size = i + (cdB c ++ cdL l).length := h1
    rw [fo_la] at h1
    have hk := (cdB_all ⟨c, hc⟩).2
    dsimp only at hk
    have e1 : o ++ [c] ++ l = o ++ c :: l := by rw [fo_aa] <;> rfl
    rw [sdF]
    cases hK : cdK c with
    | true =>
      rw [hK, fo_ct, fo_bae, bne_iff_ne, bne_iff_ne] at hk
      have hb : cdB c = [c] := by unfold cdB; rw [hK] <;> rfl
      rw [hb] at ha h1
      have g := ha.left.at_ 0 (by simp)
      rw [Nat.add_zero] at g
      have g : bt s i = c := g
      have h1 : s.size = i + (1 + (cdL l).length) := h1
      rw [fo_dt (by omega), fo_ct, g, beq_false_of_ne hk.1, fo_cf, beq_false_of_ne hk.2, fo_cf, btL_app, sdF_at s l f (i + 1) _ h0' ha.right (by omega) (by omega), e1]
    | false =>
      rw [hK, fo_cf] at hk
      cases hS : (c == 32) with
      | true =>
        have hc32 : c = 32 := by simpa using hS
        have hb : cdB c = [43] := by unfold cdB; rw [hK, fo_cf, hS] <;> rfl
        rw [hb] at ha h1
        have g := ha.left.at_ 0 (by simp)
        rw [Nat.add_zero] at g
        have g : bt s i = 43 := g
        have h1 : s.size = i + (1 + (cdL l).length) := h1
        rw [fo_dt (by omega), fo_ct, g, show ((43 : Nat) == 43) = true from rfl, fo_ct, btL_app, sdF_at s l f (i + 1) _ h0' ha.right (by omega) (by omega), ← e1, hc32]
      | false =>
        rw [hS, fo_cf, fo_bae, beq_iff_eq, beq_iff_eq] at hk
        have hb : cdB c = [37, hexU (c / 16), hexU (c % 16)] := by unfold cdB; rw [hK, fo_cf, hS] <;> rfl
        rw [hb] at ha h1
        have g0 := ha.left.at_ 0 (by simp)
        rw [Nat.add_zero] at g0
        have g0 : bt s i = 37 := g0
        have g1 : bt s (i + 1) = hexU (c / 16) := ha.left.at_ 1 (by simp)
        have g2 : bt s (i + 2) = hexU (c % 16) := ha.left.at_ 2 (by simp)
        have h1 : s.size = i + (3 + (cdL l).length) := h1
        rw [fo_dt (by omega), fo_ct, g0, g1, g2, show ((37 : Nat) == 43) = false from rfl, fo_cf, show ((37 : Nat) == 37) = true from rfl, fo_ct, fo_df (by omega), fo_cf, hk.1, hk.2, fo_df (by omega), fo_df (by omega), Bool.or_false, fo_cf, fo_tn, fo_tn, show c / 16 * 16 + c % 16 = c by omega, btL_app, sdF_at s l f (i + 3) _ h0' ha.right (by omega) (by omega), e1]
theorem sd_cd (s : ByteArray) : sdV (cdV s) = some s := by
  rw [cdV_L]
  unfold sdV
  have h := sdF_at (btL (cdL (baL s))) (baL s) ((btL (cdL (baL s))).size + 1) 0 [] (baL_lt s) (AtB.self (cdL_lt (baL_lt s))) (by rw [btL_size]; omega) (by omega)
  rw [List.nil_append, btL_baL] at h
  exact h
def pcL (f : Fld) : List Nat := cdL (baL f.1) ++ ([61] ++ cdL (baL f.2))
theorem pcL_all (f : Fld) : ∀ b ∈ pcL f, b < 256 ∧ b ≠ 38 ∧ b ≠ 63 ∧ 33 ≤ b ∧ b ≤ 126 := λb hb => by
  rcases List.mem_append.1 hb with h | h
  · have := cdL_all (baL_lt f.1) b h; exact ⟨this.1, this.2.1, this.2.2.2⟩
  rcases List.mem_append.1 h with h | h
  · rw [List.mem_singleton.1 h]; decide
  · have := cdL_all (baL_lt f.2) b h; exact ⟨this.1, this.2.1, this.2.2.2⟩
theorem pcL_lt (f : Fld) : Bys (pcL f) := λb hb => (pcL_all f b hb).1
theorem fpV_L (l : List Fld) : fpV l = l.map λf => btL (pcL f) := by
  unfold fpV
  refine List.map_congr_left λf _ => ?_
  rw [cdV_L, cdV_L, show (⟨#[61]⟩ : ByteArray) = btL [61] from rfl, btL_app, btL_app, fo_aa] <;> rfl
theorem getD_mem {l : List Nat} {k : Nat} (h : k < l.length) : l.getD k 0 ∈ l := by
  rw [fo_gd, fo_ge h]
  exact List.getElem_mem _
theorem at_AtB {s : ByteArray} {i c : Nat} {a : List Nat} (h : AtB s i a) (hn : ∀ b ∈ a, b ≠ c) (he : i + a.length < s.size → bt s (i + a.length) = c) : atV s c i = i + a.length :=
  at_eq s c i _ (by omega) h.sz (λj h1 h2 => by
    have := h.at_ (j - i) (by omega)
    rw [show i + (j - i) = j by omega] at this
    rw [this]
    exact hn _ (getD_mem (by omega))) he
theorem cut_pc {a b : List Nat} {c : Nat} (hc : c < 256) (ha : Bys a) (hb : Bys b) (hn : ∀ x ∈ a, x ≠ c) : cutA (btL (a ++ ([c] ++ b))) c = btL a ∧ cutB (btL (a ++ ([c] ++ b))) c = btL b ∧ atV (btL (a ++ ([c] ++ b))) c 0 < (btL (a ++ ([c] ++ b))).size := by
  have hl : Bys (a ++ ([c] ++ b)) := λx hx => by
    rcases List.mem_append.1 hx with h | h
    · exact ha x h
    rcases List.mem_append.1 h with h | h
    · rw [List.mem_singleton.1 h]; exact hc
    · exact hb x h
  have hA := AtB.self hl
  have h1 := hA.left
  have h2 := hA.right.left
  have h3 := hA.right.right
  have hz : (btL (a ++ ([c] ++ b))).size = a.length + (1 + b.length) := by rw [btL_size, fo_la, fo_la] <;> rfl
  have e : atV (btL (a ++ ([c] ++ b))) c 0 = 0 + a.length := at_AtB h1 hn λ_ => by have := h2.at_ 0 (by simp); rw [Nat.add_zero] at this; exact this
  rw [fo_za] at e
  unfold cutA cutB
  rw [e]
  refine ⟨h1.ext ha (by omega), ?_, by rw [hz]; omega⟩
  rw [show min (a.length + 1) (btL (a ++ ([c] ++ b))).size = a.length + 1 by rw [hz]; omega]
  have h3' : AtB (btL (a ++ ([c] ++ b))) (a.length + 1) b := by
    have h4 := h3
    rw [fo_za] at h4
    exact h4
  exact h3'.ext hb (by rw [hz]; omega)
def fmL : List Fld → List Nat
  | [] => []
  | [f] => pcL f
  | f :: g :: r => pcL f ++ ([38] ++ fmL (g :: r))
theorem fmL_all : ∀ (l : List Fld), ∀ b ∈ fmL l, b < 256 ∧ b ≠ 63 ∧ 33 ≤ b ∧ b ≤ 126
  | [], b, hb => by cases hb
  | [f], b, hb => by have := pcL_all f b hb; exact ⟨this.1, this.2.2⟩
  | f :: g :: r, b, hb => by
    rcases List.mem_append.1 hb with h | h
    · have := pcL_all f b h; exact ⟨this.1, this.2.2⟩
    rcases List.mem_append.1 h with h | h
    · rw [List.mem_singleton.1 h]; decide
    · exact fmL_all (g :: r) b h
theorem fmL_lt (l : List Fld) : Bys (fmL l) := λb hb => (fmL_all l b hb).1
theorem pcF_at (s : ByteArray) : ∀ (l : List Fld) (f i : Nat), l ≠ [] → AtB s i (fmL l) → s.size = i + (fmL l).length → s.size < i + f → pcF s f i = l.map λf => btL (pcL f)
  | [], _, _, h, _, _, _ => (h rfl).elim
  | [x], f, i, _, ha, h1, h2 => by
    obtain ⟨f, rfl⟩ : ∃ g, f = g + 1 := ⟨f - 1, by omega⟩
    have ha : AtB s i (pcL x) := ha
    have h1 : s.size = i + (pcL x).length := h1
    have e := at_AtB (c := 38) ha (λb hb => (pcL_all x b hb).2.1) (λh => by omega)
    rw [pcF, e, fo_df (by omega), fo_cf, ha.ext (pcL_lt x) rfl] <;> rfl
  | x :: y :: r, f, i, _, ha, h1, h2 => by
    obtain ⟨f, rfl⟩ : ∃ g, f = g + 1 := ⟨f - 1, by omega⟩
    have ha : AtB s i (pcL x ++ ([38] ++ fmL (y :: r))) := ha
    have h1 : s.size = i + (pcL x ++ ([38] ++ fmL (y :: r))).length := h1
    rw [fo_la, fo_la] at h1
    have h1 : s.size = i + ((pcL x).length + (1 + (fmL (y :: r)).length)) := h1
    have g := ha.right.left.at_ 0 (by simp)
    rw [Nat.add_zero] at g
    have e := at_AtB (c := 38) ha.left (λb hb => (pcL_all x b hb).2.1) (λ_ => g)
    have k := ha.right.right
    rw [pcF, e, fo_dt (by omega), fo_ct, ha.left.ext (pcL_lt x) rfl, pcF_at s (y :: r) f (i + (pcL x).length + 1) (by simp) k (by omega) (by omega)] <;> rfl
theorem pcL_sz (f : Fld) : ((btL (pcL f)).size == 0) = false := by
  rw [btL_size]
  unfold pcL
  rw [fo_la, fo_la]
  refine beq_false_of_ne ?_
  show _ + (1 + _) ≠ 0
  omega
theorem fdL_pc : ∀ (l : List Fld) (o : List Fld), fdL (l.map λf => btL (pcL f)) o = some (o ++ l)
  | [], o => by rw [fo_an] <;> rfl
  | f :: r, o => by
    obtain ⟨e1, e2, _⟩ := cut_pc (c := 61) (by decide) (cdL_lt (baL_lt f.1)) (cdL_lt (baL_lt f.2)) (λx hx => (cdL_all (baL_lt f.1) x hx).2.2.1)
    have e1 : cutA (btL (pcL f)) 61 = cdV f.1 := by rw [cdV_L]; exact e1
    have e2 : cutB (btL (pcL f)) 61 = cdV f.2 := by rw [cdV_L]; exact e2
    rw [List.map_cons, fdL, pcL_sz, fo_cf, e1, e2, sd_cd, sd_cd]
    show fdL (r.map λf => btL (pcL f)) (o ++ [f]) = _
    rw [fdL_pc r, fo_aa] <;> rfl
theorem fwB_L : ∀ l : List Fld, fwB l = btL (fmL l) := by
  intro l
  unfold fwB
  rw [fpV_L]
  have key : ∀ l : List Fld, Lib.join ((l.map λf => btL (pcL f)).map (·.data.toList)) [38] = (fmL l).map λn => UInt8.ofNat n := by
    intro l
    induction l with
    | nil => rfl
    | cons f r ih =>
      cases r with
      | nil => rw [List.map_cons, List.map_cons, List.map_nil, List.map_nil, Lib.join_one] <;> rfl
      | cons g r =>
        rw [List.map_cons, List.map_cons, Lib.join_cons]
        rw [List.map_cons, List.map_cons, Lib.join_cons] at ih
        have e : fmL (f :: g :: r) = pcL f ++ ([38] ++ fmL (g :: r)) := rfl
        rw [e, List.map_append, List.map_append, ← ih] <;> rfl
  unfold jnB
  rw [show ((⟨#[38]⟩ : ByteArray).data.toList) = [38] from rfl, key] <;> rfl
theorem fd_fw {l : List Fld} (hn : l ≠ []) (h1 : (fwB l).size ≤ 4096) (h2 : l.length ≤ 32) : fdV (fwB l) = some l := by
  unfold fdV
  rw [fo_df (by omega), fo_cf]
  have e : pcV (fwB l) = l.map λf => btL (pcL f) := by
    rw [fwB_L]
    exact pcF_at (btL (fmL l)) l _ 0 hn (AtB.self (fmL_lt l)) (by rw [btL_size]; omega) (by omega)
  rw [e, fdL_pc, List.nil_append]
  show (bif decide (l.length > 32) then none else some l) = _
  rw [fo_df (by omega), fo_cf]
end
section
open Go
set_option maxHeartbeats 1000000
def uNm : ByteArray := ⟨#[95, 115, 99, 120, 109, 108, 101, 118, 101, 110, 116, 110, 97, 109, 101]⟩
def uFm : ByteArray := ⟨#[97, 112, 112, 108, 105, 99, 97, 116, 105, 111, 110, 47, 120, 45, 119, 119, 119, 45, 102, 111, 114, 109, 45, 117, 114, 108, 101, 110, 99, 111, 100, 101, 100]⟩
def uBd : ByteArray := ⟨#[95, 115, 99, 120, 109, 108, 101, 118, 101, 110, 116, 110, 97, 109, 101, 61, 101, 38, 97, 61, 49]⟩
def uJs : ByteArray := ⟨#[123, 34, 97, 34, 58, 49, 125]⟩
def uWd : ByteArray := ⟨#[0, 123, 0, 34, 0, 97, 0, 34, 0, 58, 0, 49, 0, 125]⟩
def uKv : KVs := [(⟨#[0, 97]⟩, .n 4607182418800017408)]
abbrev it81 : Con := inC noG [.int .i64 81] (.string ⟨#[56, 49]⟩)
theorem it81_ok : fo_k 31 it81 := FnOk.sim (by kernel_rfl) 8 12 (by kernel_rfl)
abbrev wdI : Con where
  X := Unit
  Y := Int
  args _ := [.string uJs]
  pre _ := []
  cond _ := True
  rdc _ F := Utf F
  rel _ _ := True
  val _ y := .returned (.tuple #[.string uWd, .int .i64 y, .int .i64 0])
  post _ _ := []
  rmono _ _ _ hs h := h.sub hs
theorem uWd_eq : wideV uJs = uWd := by decide +kernel
theorem wdI_ok : fo_k 32 wdI := ⟨λ_ F I w _ hr hs =>
  (wds_ok.h ⟨uJs⟩ F I w (by decide : 7 ≤ 1048576) hr hs).mono λe w' ⟨y, J, k1, k2, k3, k4, k5⟩ => ⟨y.1, J, fo_tv, by
    have h : y.2 = 0 := k1 (by rw [show (WdX.mk uJs).s = uJs from rfl, uWd_eq]; decide)
    rw [k2]
    show returned (.tuple #[.string (wideV uJs), .int .i64 y.1, .int .i64 y.2]) = .returned (.tuple #[.string uWd, .int .i64 y.1, .int .i64 0])
    rw [uWd_eq, h], k3, k4, k5⟩⟩
abbrev pzI : Con where
  X := B1
  Y := Int
  args x := [.pointer (some ⟨x.b, 0, none⟩), .string uWd]
  pre x := [ho0 x.b 10000]
  cond _ := True
  rdc _ F := gN.ok F ∧ Utf F
  rel _ _ := True
  val _ _ := .returned (.tuple #[.agg #[.int .i64 5, .float .f64 0, .string ⟨#[]⟩, .int .i64 0], .int .i64 0])
  post x y := [hoA x.b y uKv]
  rmono _ _ _ hs h := ⟨λb i v e => (h.1 b i v e).sub hs, h.2.sub hs⟩
theorem pz_at : ObAt k1 uWd 1 uKv 7 :=
  .last 1 4 6 ⟨#[0, 97]⟩ (.n 4607182418800017408) (by decide +kernel) (by decide +kernel) (by decide) (by decide +kernel) (.n (by decide +kernel) (by decide +kernel) (by decide +kernel) (by decide +kernel) (by decide +kernel)) (by decide) (by decide +kernel) (by decide)
theorem pzI_x (b : Nat) : (PzX.mk k1 b uWd uKv 7).ok where
  w := (by decide : 14 ≤ 1048576)
  k := k1_ok
  o := (by decide +kernel : jpkR0 uWd 0 = 123)
  a := .inl pz_at
  j := (by decide : 7 ≤ 1048576)
  e := (by decide +kernel : jpkR0 uWd 7 = -1)
  l := (by decide : 1 ≤ 9990)
  v p hp := by
    rcases List.mem_singleton.1 hp with rfl
    exact ⟨by decide, by unfold Pv.ok; trivial⟩
theorem pzI_ok : fo_k 33 pzI := ⟨λx F I w _ hr hs => by
  refine (prz_ok.h ⟨k1, x.b, uWd, uKv, 7⟩ F I w (pzI_x x.b) hr hs).mono λe w' ⟨y, J, _, k2, k3, k4, k5⟩ => ⟨y, J, fo_tv, k2, k3, ?_, k5⟩
  exact k4⟩
abbrev kiI : Con where
  X := HhX
  Y := Unit
  args x := [.pointer (some ⟨x.b, 0, none⟩), .int .i64 0]
  pre x := [hoA x.b x.n uKv]
  cond _ := True
  rdc _ _ := True
  rel _ _ := True
  val _ _ := .returned (.int .i64 1)
  post x _ := [hoA x.b x.n uKv]
theorem kiI_ok : fo_k 34 kiI := ⟨λx F I w _ _ hs => kih_ok.h ⟨x.b, x.n, uKv, ⟨#[]⟩⟩ F I w trivial trivial hs⟩
abbrev owI : Con where
  X := HhX
  Y := Unit
  args x := [.pointer (some ⟨x.b, 0, none⟩), .int .i64 0, .string ⟨#[0, 97]⟩]
  pre x := [hoA x.b x.n uKv]
  cond _ := True
  rdc _ _ := True
  rel _ _ := True
  val _ _ := .returned (.tuple #[.agg #[.int .i64 3, .float .f64 4607182418800017408, .string ⟨#[]⟩, .int .i64 0], .bool true])
  post x _ := [hoA x.b x.n uKv]
theorem owI_ok : fo_k 36 owI := ⟨λx F I w _ _ hs =>
  (owh_ok.h ⟨x.b, x.n, uKv, ⟨#[0, 97]⟩⟩ F I w trivial trivial hs).mono λe w' ⟨y, J, k1, k2, k3, k4, k5⟩ => ⟨(), J, fo_tv, by
    have h : y = lpOf (getV ⟨#[0, 97]⟩ uKv) := k1
    subst h
    exact k2.trans (by kernel_rfl), k3, k4, k5⟩⟩
abbrev keI : Con where
  X := HhX
  Y := Row
  args x := [.pointer (some ⟨x.b, 0, none⟩), .int .i64 0]
  pre x := [hoA x.b x.n uKv]
  cond _ := True
  rdc _ _ := True
  rel _ y := IsRow 9 1 [.string ⟨#[0, 97]⟩] y ∧ y.n = 1
  val _ y := .returned (.slice y.a y.n y.cap)
  post x y := [hoA x.b x.n uKv, y.A]
theorem keI_ok : fo_k 35 keI := ⟨λx F I w _ _ hs => keh_ok.h ⟨x.b, x.n, uKv, ⟨#[]⟩⟩ F I w (by decide : 1 ≤ 10000) trivial hs⟩
abbrev nrI : Con := inC noG [.string ⟨#[0, 97]⟩] (.tuple #[.string ⟨#[97]⟩, .int .i64 0])
theorem nrI_ok : fo_k 37 nrI := ⟨λ_ F I w _ _ hs =>
  (nrn_ok.h ⟨⟨#[0, 97]⟩⟩ F I w (by decide : 2 ≤ 1048576) trivial hs).mono λe w' ⟨y, J, k1, k2, k3, k4, k5⟩ => ⟨y, J, k1, k2.trans (by kernel_rfl), k3, k4, k5⟩⟩
def uFl : List Fld := [(uNm, ⟨#[101]⟩), (⟨#[97]⟩, ⟨#[49]⟩)]
abbrev fwI : Con where
  X := Row
  Y := Unit
  args x := [.slice x.a x.n x.cap]
  pre _ := []
  cond x := IsSrc 2 (fCs uFl) x.a x.n ∧ x.n ≤ 1000000
  rdc x F := Srcd F x.a (fCs uFl)
  rel _ _ := True
  val _ _ := .returned (.tuple #[.string uBd, .int .i64 0])
  post _ _ := []
  rmono _ _ _ hs h := h.sub hs
theorem fwI_ok : fo_k 39 fwI := ⟨λx F I w hc hr hs => by
  refine (fw_ok.h ⟨uFl, x.a, x.n, x.cap⟩ F I w ⟨hc.1, hc.2, ?_⟩ hr hs).mono λe w' ⟨y, J, k1, k2, k3, k4, k5⟩ => ⟨y, J, k1, k2.trans (by kernel_rfl), k3, k4, k5⟩
  intro f hf
  rcases List.mem_cons.1 hf with rfl | hf
  · exact ⟨by decide, by decide⟩
  · rcases List.mem_singleton.1 hf with rfl
    exact ⟨by decide, by decide⟩⟩
def uQt : ByteArray := wqT ⟨⟨#[80, 79, 83, 84]⟩, ⟨#[47, 120]⟩, ⟨#[104, 58, 56, 49]⟩, uFm, uBd, ⟨⟨#[]⟩, 0, ⟨#[]⟩, [], 0⟩⟩
def uIx : Nat := (Lib.index uQt.data.toList sEnd.data.toList).toNat
def uLs : List ByteArray := spW sCRLF (uQt.extract 0 uIx)
def uR : RdX := ⟨uQt, uIx, uLs.headD ⟨#[]⟩, uLs.tail, 21⟩
def uQ : WqX := ⟨⟨#[80, 79, 83, 84]⟩, ⟨#[47, 120]⟩, ⟨#[104, 58, 56, 49]⟩, uFm, uBd, uR⟩
theorem rdx_ok {s l0 : ByteArray} {i n : Nat} {ls : List ByteArray} (h1 : s.size ≤ 1048576) (h2 : Lib.index s.data.toList sEnd.data.toList = i) (h3 : i + 4 ≤ 4096) (h4 : ls.length ≤ 1000000) (h5 : spW sCRLF (s.extract 0 i) = l0 :: ls) (h6 : (rqlV l0).2.2 = true) (h7 : ∀ z ∈ ls, atV z 58 0 < z.size ∧ tokV (cutA z 58) = true ∧ thV (hvV z) = true) (h8 : (ctnV nmCL (RdX.mk s i l0 ls n).fs).1 = 1) (h9 : (ctnV nmHo (RdX.mk s i l0 ls n).fs).1 = 1) (ha : (ctnV nmTE (RdX.mk s i l0 ls n).fs).1 = 0) (hb : AuOk (ctnV nmCL (RdX.mk s i l0 ls n).fs).2) (hc : trmV (inS' sDig) (ctnV nmCL (RdX.mk s i l0 ls n).fs).2 = ⟨#[]⟩) (hd : atN (ctnV nmCL (RdX.mk s i l0 ls n).fs).2 (ctnV nmCL (RdX.mk s i l0 ls n).fs).2.size = n) (he : n ≤ 4096) (hf : i + 4 + n ≤ s.size) : (RdX.mk s i l0 ls n).ok := ⟨h1, h2, h3, h4, h5, h6, h7, h8, h9, ha, hb, hc, hd, he, hf⟩
theorem uq_s : uQt.size ≤ 1048576 := by decide +kernel
theorem uq_i : Lib.index uQt.data.toList sEnd.data.toList = uIx := by decide +kernel
theorem uq_2 : uIx + 4 ≤ 4096 := by decide +kernel
theorem uq_ll : uLs.tail.length ≤ 1000000 := by decide +kernel
theorem uq_l : uLs = uLs.headD ⟨#[]⟩ :: uLs.tail := by decide +kernel
theorem uq_r : (rqlV (uLs.headD ⟨#[]⟩)).2.2 = true := by decide +kernel
theorem uq_f : ∀ z ∈ uLs.tail, atV z 58 0 < z.size ∧ tokV (cutA z 58) = true ∧ thV (hvV z) = true := by decide +kernel
theorem uq_c1 : (ctnV nmCL uR.fs).1 = 1 := by decide +kernel
theorem uq_c2 : (ctnV nmHo uR.fs).1 = 1 := by decide +kernel
theorem uq_c3 : (ctnV nmTE uR.fs).1 = 0 := by decide +kernel
theorem uq_v : 1 ≤ (ctnV nmCL uR.fs).2.size ∧ (ctnV nmCL uR.fs).2.size ≤ 9 ∧ ∀ i : Nat, i < (ctnV nmCL uR.fs).2.size → 48 ≤ byteAt (ctnV nmCL uR.fs).2 i ∧ byteAt (ctnV nmCL uR.fs).2 i ≤ 57 := by decide +kernel
theorem uq_v2 : trmV (inS' sDig) (ctnV nmCL uR.fs).2 = ⟨#[]⟩ := by decide +kernel
theorem uq_v3 : atN (ctnV nmCL uR.fs).2 (ctnV nmCL uR.fs).2.size = (21 : Nat) := by decide +kernel
theorem uq_e : uIx + 4 + 21 = uQt.size := by decide +kernel
theorem uQ_x : uR.ok := rdx_ok uq_s uq_i uq_2 uq_ll uq_l uq_r uq_f uq_c1 uq_c2 uq_c3 ⟨uq_v.1, uq_v.2.1, uq_v.2.2⟩ uq_v2 uq_v3 (by decide) (Nat.le_of_eq uq_e)
theorem uQ_ok : uQ.ok where
  x := uQ_x
  s := rfl
  r := by kernel_rfl
  e := uq_e
  c := by decide
abbrev wqI : Con where
  X := Unit
  Y := Unit
  args _ := [.agg #[.string ⟨#[80, 79, 83, 84]⟩, .string ⟨#[47, 120]⟩, .string ⟨#[104, 58, 56, 49]⟩, .string uFm, .string uBd]]
  pre _ := []
  cond _ := True
  rdc _ F := Gl F ∧ TxG F
  rel _ _ := True
  val _ _ := .returned (.tuple #[.string uQt, .int .i64 0])
  post _ _ := []
  rmono _ _ _ hs h := ⟨h.1.sub hs, h.2.sub hs⟩
theorem wqI_ok : fo_k 41 wqI := ⟨λ_ F I w _ hr hs => wq_ok.h uQ F I w uQ_ok hr hs⟩
end
section
open Go
def u8M (l : List Nat) : List UInt8 := l.map λn => UInt8.ofNat n
theorem u8_app (a b : List Nat) : u8M (a ++ b) = u8M a ++ u8M b := List.map_append
theorem u8_no {a : List Nat} {c : Nat} (ha : Bys a) (hc : c < 256) (hn : c ∉ a) : UInt8.ofNat c ∉ u8M a := λh => by
  obtain ⟨b, hb, e⟩ := List.mem_map.1 h
  have := (ofNat_eq (ha b hb) hc).1 e
  subst this
  exact hn hb
theorem pre_no {x c : UInt8} {t l : List UInt8} (h : x ≠ c) : (c :: t).isPrefixOf (x :: l) = false := by
  show (c == x && t.isPrefixOf l) = false
  rw [beq_false_of_ne (λe => h e.symm)] <;> rfl
theorem pre_self : ∀ (t b : List UInt8), t.isPrefixOf (t ++ b) = true
  | [], b => by cases b <;> rfl
  | x :: t, b => by
    show (x == x && t.isPrefixOf (t ++ b)) = true
    rw [beq_self_eq_true, pre_self t b] <;> rfl
theorem index_app {c : UInt8} {t : List UInt8} : ∀ {a : List UInt8} (b : List UInt8), c ∉ a → Lib.index (a ++ ((c :: t) ++ b)) (c :: t) = a.length
  | [], b, _ => by
    show Lib.index (c :: (t ++ b)) (c :: t) = _
    have e : (c :: t).isPrefixOf (c :: (t ++ b)) = true := pre_self (c :: t) b
    rw [Lib.index, if_pos e] <;> rfl
  | x :: a, b, h => by
    have hx : x ≠ c := λe => h (e ▸ fo_mc)
    have ih := index_app (c := c) (t := t) (a := a) b λhh => h (fo_mm _ hh)
    show Lib.index (x :: (a ++ ((c :: t) ++ b))) (c :: t) = _
    rw [Lib.index, if_neg (by rw [pre_no hx]; decide), ih, if_neg (by rw [beq_iff_eq]; omega), fo_lc] <;> rfl
theorem index_no {c : UInt8} {t : List UInt8} : ∀ {a : List UInt8}, c ∉ a → Lib.index a (c :: t) = -1
  | [], _ => rfl
  | x :: a, h => by
    have hx : x ≠ c := λe => h (e ▸ fo_mc)
    have ih := index_no (c := c) (t := t) (a := a) λhh => h (fo_mm _ hh)
    rw [Lib.index, if_neg (by rw [pre_no hx]; decide), ih] <;> rfl
theorem sp_hit {a b t : List Nat} {c : Nat} (ha : Bys a) (hc : c < 256) (hn : c ∉ a) (ht : Bys t) (hb : Bys b) : spW (btL (c :: t)) (btL (a ++ ((c :: t) ++ b))) = btL a :: spW (btL (c :: t)) (btL b) := by
  have hl : Bys (a ++ ((c :: t) ++ b)) := λx hx => by
    rcases List.mem_append.1 hx with h | h
    · exact ha x h
    rcases List.mem_append.1 h with h | h
    · rcases List.mem_cons.1 h with rfl | h
      · exact hc
      · exact ht x h
    · exact hb x h
  have hix : Lib.indexB (btL (a ++ ((c :: t) ++ b))) (btL (c :: t)) = (a.length : Nat) := by
    show Lib.index (u8M (a ++ ((c :: t) ++ b))) (u8M (c :: t)) = _
    rw [u8_app, u8_app]
    have := index_app (c := UInt8.ofNat c) (t := u8M t) (a := u8M a) (u8M b) (u8_no ha hc hn)
    refine this.trans ?_
    unfold u8M
    rw [List.length_map]
  have hz : (btL (c :: t)).size = t.length + 1 := by rw [btL_size, fo_lc]
  have hA := AtB.self hl
  have hzt : (btL (a ++ ((c :: t) ++ b))).size = a.length + (t.length + 1 + b.length) := by rw [btL_size, fo_la, fo_la, fo_lc]
  have e1 : (btL (a ++ ((c :: t) ++ b))).extract 0 (a.length + 0) = btL a := hA.left.ext ha (by omega)
  have h3 := hA.right.right
  rw [fo_lc] at h3
  have e2 : (btL (a ++ ((c :: t) ++ b))).extract (a.length + (btL (c :: t)).size) (btL (a ++ ((c :: t) ++ b))).size = btL b := by
    rw [hz]
    have h4 : AtB (btL (a ++ ((c :: t) ++ b))) (a.length + (t.length + 1)) b := by
      rw [fo_za] at h3; exact h3
    exact h4.ext hb (by rw [hzt]; omega)
  unfold spW
  rw [Lib.countB_hit _ _ _ (by omega) hix, Nat.add_comm 1, Lib.splitB_hit _ _ _ _ _ hix, e1, e2]
theorem sp_end {a t : List Nat} {c : Nat} (ha : Bys a) (hc : c < 256) (hn : c ∉ a) : spW (btL (c :: t)) (btL a) = [btL a] := by
  have hix : Lib.indexB (btL a) (btL (c :: t)) = -1 := index_no (c := UInt8.ofNat c) (t := u8M t) (a := u8M a) (u8_no ha hc hn)
  unfold spW
  rw [Lib.splitB_miss _ _ _ _ hix]
theorem index_e4 {b : List UInt8} (hb : ∀ x r, b = x :: r → x ≠ 13) (hp : 0 ≤ Lib.index b [13, 10, 13, 10]) : ∀ {a : List UInt8}, (13 : UInt8) ∉ a → Lib.index (a ++ ([13, 10] ++ b)) [13, 10, 13, 10] = a.length + 2 + Lib.index b [13, 10, 13, 10]
  | [], _ => by
    show Lib.index (13 :: 10 :: b) _ = _
    have e1 : ([13, 10, 13, 10] : List UInt8).isPrefixOf (13 :: 10 :: b) = false := by
      cases b with
      | nil => rfl
      | cons x r =>
        have := hb x r rfl
        show ([13, 10] : List UInt8).isPrefixOf (x :: r) = false
        exact pre_no this
    have e2 : ([13, 10, 13, 10] : List UInt8).isPrefixOf (10 :: b) = false := pre_no (by decide)
    have i1 : Lib.index (10 :: b) [13, 10, 13, 10] = Lib.index b [13, 10, 13, 10] + 1 := by
      rw [Lib.index, e2, if_neg (show ¬ (false = true) by decide), if_neg (by rw [beq_iff_eq]; omega)]
    rw [Lib.index, e1, if_neg (show ¬ (false = true) by decide), i1, if_neg (by rw [beq_iff_eq]; omega)]
    show _ = ((0 : Nat) : Int) + 2 + _
    omega
  | x :: a, h => by
    have hx : x ≠ 13 := λe => h (e ▸ fo_mc)
    have ih := index_e4 hb hp (a := a) λhh => h (fo_mm _ hh)
    show Lib.index (x :: (a ++ ([13, 10] ++ b))) _ = _
    rw [Lib.index, if_neg (by rw [pre_no hx]; decide), ih, if_neg (by rw [beq_iff_eq]; omega), fo_lc]
    omega
def dg4 (n : Nat) : List Nat := if n < 10 then [48 + n] else if n < 100 then [48 + n / 10, 48 + n % 10] else if n < 1000 then [48 + n / 100, 48 + n / 10 % 10, 48 + n % 10] else [48 + n / 1000, 48 + n / 100 % 10, 48 + n / 10 % 10, 48 + n % 10]
theorem itoa_dg {n : Nat} (h : n < 10000) : (⟨(Lib.itoa (n : Nat)).toArray⟩ : ByteArray) = btL (dg4 n) := by
  have key : Lib.decDigits n = u8M (dg4 n) := by
    unfold dg4
    by_cases h1 : n < 10
    · rw [if_pos h1, Lib.decDigits_one h1] <;> rfl
    rw [if_neg h1]
    by_cases h2 : n < 100
    · rw [if_pos h2, Lib.decDigits_two h1 h2] <;> rfl
    rw [if_neg h2]
    by_cases h3 : n < 1000
    · rw [if_pos h3, Lib.decDigits, dif_neg h1, Lib.decDigits_two (by omega) (by omega), show n / 10 / 10 = n / 100 by omega] <;> rfl
    rw [if_neg h3, Lib.decDigits, dif_neg h1, Lib.decDigits, dif_neg (by omega), Lib.decDigits_two (by omega) (by omega), show n / 10 / 10 / 10 = n / 1000 by omega, show n / 10 / 10 % 10 = n / 100 % 10 by omega] <;> rfl
  apply ByteArray.ext
  apply Array.toList_inj.1
  show Lib.itoa (n : Nat) = u8M (dg4 n)
  unfold Lib.itoa
  rw [if_neg (by omega), fo_tn, key]
theorem dg4_all {n : Nat} (h : n < 10000) : ∀ b ∈ dg4 n, 48 ≤ b ∧ b ≤ 57 := λb hb => by
  unfold dg4 at hb
  split at hb
  · simp only [List.mem_cons, List.not_mem_nil, or_false] at hb; omega
  split at hb
  · simp only [List.mem_cons, List.not_mem_nil, or_false] at hb; omega
  split at hb
  · simp only [List.mem_cons, List.not_mem_nil, or_false] at hb; omega
  · simp only [List.mem_cons, List.not_mem_nil, or_false] at hb; omega
theorem dg4_len (n : Nat) : 1 ≤ (dg4 n).length ∧ (dg4 n).length ≤ 4 := by
  unfold dg4
  split
  · exact ⟨by simp, by simp⟩
  split
  · exact ⟨by simp, by simp⟩
  split
  · exact ⟨by simp, by simp⟩
  · exact ⟨by simp, by simp⟩
theorem byteAt_bt2 (s : ByteArray) (k : Nat) : byteAt s (k : Nat) = (bt s k : Int) := by
  unfold byteAt bt
  rw [fo_tn, fo_gd, Array.getElem?_toList]
  cases s.data[k]? <;> rfl
theorem atN_dg {n : Nat} (h : n < 10000) : atN (btL (dg4 n)) (btL (dg4 n)).size = (n : Nat) := by
  have hl : Bys (dg4 n) := λb hb => by have := dg4_all h b hb; omega
  have hb : ∀ k : Nat, byteAt (btL (dg4 n)) (k : Nat) = ((dg4 n).getD k 0 : Nat) := λk => by rw [byteAt_bt2, bt_btL hl]
  rw [btL_size]
  have st : ∀ k, atN (btL (dg4 n)) (k + 1) = atN (btL (dg4 n)) k * 10 + (((dg4 n).getD k 0 : Nat) - 48) := λk => by rw [atN, hb]
  revert st
  generalize btL (dg4 n) = t
  unfold dg4
  intro st
  split at st <;> rename_i h1
  · rw [if_pos h1]
    show atN t 1 = _
    rw [st 0, show atN t 0 = 0 from rfl]
    simp only [List.getD_cons_zero]
    omega
  rw [if_neg h1]
  split at st <;> rename_i h2
  · rw [if_pos h2]
    show atN t 2 = _
    rw [st 1, st 0, show atN t 0 = 0 from rfl]
    simp only [List.getD_cons_zero, List.getD_cons_succ]
    omega
  rw [if_neg h2]
  split at st <;> rename_i h3
  · rw [if_pos h3]
    show atN t 3 = _
    rw [st 2, st 1, st 0, show atN t 0 = 0 from rfl]
    simp only [List.getD_cons_zero, List.getD_cons_succ]
    omega
  rw [if_neg h3]
  show atN t 4 = _
  rw [st 3, st 2, st 1, st 0, show atN t 0 = 0 from rfl]
  simp only [List.getD_cons_zero, List.getD_cons_succ]
  omega
theorem au_dg {n : Nat} (h : n < 10000) : AuOk (btL (dg4 n)) where
  lo := by rw [btL_size]; exact (dg4_len n).1
  hi := by rw [btL_size]; have := (dg4_len n).2; omega
  dig i hi := by
    rw [btL_size] at hi
    have hl : Bys (dg4 n) := λb hb => by have := dg4_all h b hb; omega
    rw [byteAt_bt2, bt_btL hl]
    have := dg4_all h _ (getD_mem hi)
    omega
theorem allF_at {k : Nat → Bool} {s : ByteArray} (h : ∀ i, i < s.size → k (bt s i) = true) : ∀ (f i : Nat), allF k s f i = true
  | 0, _ => rfl
  | f + 1, i => by
    rw [allF]
    by_cases hi : i < s.size
    · rw [fo_dt hi, fo_ct, h i hi, fo_ct]; exact allF_at h f (i + 1)
    · rw [fo_df hi] <;> rfl
theorem allV_L {k : Nat → Bool} {l : List Nat} (hl : Bys l) (h : ∀ b ∈ l, k b = true) : allV k (btL l) = true :=
  allF_at (λi hi => by
    rw [btL_size] at hi
    rw [bt_btL hl]
    exact h _ (getD_mem hi)) _ _
theorem trm_one {p : Nat → Bool} {x : Nat} {l : List Nat} (hx : x < 256) (hl : Bys l) (hp : p x = true) (hn : ∀ b ∈ l, p b = false) (h1 : 1 ≤ l.length) : trmV p (btL (x :: l)) = btL l := by
  have hxl : Bys (x :: l) := λb hb => by
    rcases List.mem_cons.1 hb with rfl | hb
    · exact hx
    · exact hl b hb
  have hz : (btL (x :: l)).size = l.length + 1 := by rw [btL_size, fo_lc]
  have hbt : ∀ k, k < l.length → p (bt (btL (x :: l)) (k + 1)) = false := λk hk => by
    rw [bt_btL hxl]
    show p (l.getD k 0) = false
    exact hn _ (getD_mem hk)
  have eNul : p (bt (btL (x :: l)) 0) = true := by rw [bt_btL hxl]; exact hp
  have er : run1 (btL (x :: l)) p 0 = 1 := rv_eq _ p _ 0 1 (by omega) (by omega) (by omega) (λj h2 h3 => by rw [show j = 0 by omega]; exact eNul) (λ_ => hbt 0 (by omega))
  have eR : runR (btL (x :: l)) p (btL (x :: l)).size = (btL (x :: l)).size := by
    have hlast := hbt (l.length - 1) (by omega)
    rw [show l.length - 1 + 1 = l.length by omega] at hlast
    rw [hz, runR, hlast] <;> rfl
  unfold trmV
  rw [er, eR]
  have hA : AtB (btL (x :: l)) (0 + 1) l := AtB.right (a := [x]) (AtB.self hxl)
  exact hA.ext hl (by rw [hz]; omega)
theorem trm_all {p : Nat → Bool} {l : List Nat} (hl : Bys l) (hp : ∀ b ∈ l, p b = true) : trmV p (btL l) = ⟨#[]⟩ := by
  have hz := btL_size l
  have er : run1 (btL l) p 0 = l.length := rv_eq _ p _ 0 _ (by omega) (by omega) (by omega) (λj _ h3 => by rw [bt_btL hl]; exact hp _ (getD_mem h3)) (λh => by omega)
  have eR : ∀ k, k ≤ l.length → runR (btL l) p k = 0 := by
    intro k
    induction k with
    | zero => intro _; rfl
    | succ k ih =>
      intro h
      rw [runR, bt_btL hl, hp _ (getD_mem (by omega)), fo_ct]
      exact ih (by omega)
  unfold trmV
  rw [er, hz, eR _ (fo_nr _), Nat.max_eq_left (fo_zl _)]
  have := ext_end (btL l) l.length (by omega)
  rw [hz] at this
  exact this
def hL0 (t : List Nat) : List Nat := [80, 79, 83, 84] ++ ([32] ++ (t ++ ([32] ++ [72, 84, 84, 80, 47, 49, 46, 49])))
def hL1 : List Nat := [72, 111, 115, 116, 58, 32, 104]
def hN2 : List Nat := [67, 111, 110, 116, 101, 110, 116, 45, 84, 121, 112, 101]
def hL2 (c : List Nat) : List Nat := hN2 ++ ([58] ++ (32 :: c))
def hN3 : List Nat := [67, 111, 110, 116, 101, 110, 116, 45, 76, 101, 110, 103, 116, 104]
def hL3 (d : List Nat) : List Nat := hN3 ++ ([58] ++ (32 :: d))
def cFm : List Nat := [97, 112, 112, 108, 105, 99, 97, 116, 105, 111, 110, 47, 120, 45, 119, 119, 119, 45, 102, 111, 114, 109, 45, 117, 114, 108, 101, 110, 99, 111, 100, 101, 100]
def cTx : List Nat := [116, 101, 120, 116, 47, 112, 108, 97, 105, 110]
structure TgOk (t : List Nat) : Prop where
  hd : ∃ r, t = 47 :: r
  len : t.length ≤ 256
  all : ∀ b ∈ t, 33 ≤ b ∧ b ≤ 126
structure CtOk (c : List Nat) : Prop where
  len : 1 ≤ c.length ∧ c.length ≤ 64
  all : ∀ b ∈ c, 33 ≤ b ∧ b ≤ 126
theorem cFm_ok : CtOk cFm := ⟨by decide, by decide⟩
theorem cTx_ok : CtOk cTx := ⟨by decide, by decide⟩
theorem rql_L {t : List Nat} (h : TgOk t) : rqlV (btL (hL0 t)) = (btL [80, 79, 83, 84], btL t, true) := by
  have ht : Bys t := λb hb => by have := h.all b hb; omega
  have e : spW ⟨#[32]⟩ (btL (hL0 t)) = [btL [80, 79, 83, 84], btL t, btL [72, 84, 84, 80, 47, 49, 46, 49]] := by
    show spW (btL (32 :: [])) _ = _
    unfold hL0
    rw [sp_hit (a := [80, 79, 83, 84]) (c := 32) (t := []) (by unfold Bys; decide) (by decide) (by decide) (by unfold Bys; decide) (λb hb => by
      rcases List.mem_append.1 hb with hb | hb
      · exact ht b hb
      · exact (by decide : ∀ x ∈ [32] ++ [72, 84, 84, 80, 47, 49, 46, 49], x < 256) b hb)]
    rw [sp_hit (a := t) (c := 32) (t := []) ht (by decide) (λhm => by have := h.all _ hm; omega) (by unfold Bys; decide) (by unfold Bys; decide)]
    rw [sp_end (by unfold Bys; decide) (by decide) (by decide)]
  unfold rqlV
  rw [e]
  have et : tgtV (btL t) = true := by
    unfold tgtV
    have e1 : allV tgK (btL t) = true := allV_L ht λb hb => by
      have := h.all b hb
      unfold tgK
      rw [fo_df (by omega), fo_df (by omega)] <;> rfl
    have e2 : hpB (btL t) ⟨#[47]⟩ = true := by
      obtain ⟨r, rfl⟩ := h.hd
      rw [hpB_pre]
      show ([47] : List UInt8).isPrefixOf (UInt8.ofNat 47 :: u8M r) = true
      rfl
    rw [e1, e2, btL_size, fo_dt h.len] <;> rfl
  show (bif tokV (btL [80, 79, 83, 84]) && (tgtV (btL t) && bEq (btL [72, 84, 84, 80, 47, 49, 46, 49]) sHt11) then (btL [80, 79, 83, 84], btL t, true) else (⟨#[]⟩, ⟨#[]⟩, false)) = _
  rw [et, show tokV (btL [80, 79, 83, 84]) = true by decide +kernel, show bEq (btL [72, 84, 84, 80, 47, 49, 46, 49]) sHt11 = true by decide +kernel] <;> rfl
theorem cut_hd {a b : List Nat} (ha : Bys a) (hb : Bys b) (hn : ∀ x ∈ a, x ≠ 58) : cutA (btL (a ++ ([58] ++ b))) 58 = btL a ∧ cutB (btL (a ++ ([58] ++ b))) 58 = btL b ∧ atV (btL (a ++ ([58] ++ b))) 58 0 < (btL (a ++ ([58] ++ b))).size := cut_pc (by decide) ha hb hn
theorem tab_not {b : Nat} (h : 33 ≤ b ∧ b ≤ 126) : inS' sTab b = false := by
  have : ∀ b : Fin 127, 33 ≤ b.val → inS' sTab b.val = false := by decide +kernel
  exact this ⟨b, by omega⟩ h.1
theorem dig_in {b : Nat} (h : 48 ≤ b ∧ b ≤ 57) : inS' sDig b = true := by
  have : ∀ b : Fin 58, 48 ≤ b.val → inS' sDig b.val = true := by decide +kernel
  exact this ⟨b, by omega⟩ h.1
theorem tx_ok {b : Nat} (h : 33 ≤ b ∧ b ≤ 126) : txK b = true := by
  unfold txK
  rw [fo_df (show ¬ b < 32 by omega), beq_false_of_ne (show b ≠ 127 by omega)] <;> rfl
theorem hv_L {n c : List Nat} (hn : Bys n) (hn2 : ∀ x ∈ n, x ≠ 58) (h : CtOk c) : atV (btL (n ++ ([58] ++ (32 :: c)))) 58 0 < (btL (n ++ ([58] ++ (32 :: c)))).size ∧ cutA (btL (n ++ ([58] ++ (32 :: c)))) 58 = btL n ∧ hvV (btL (n ++ ([58] ++ (32 :: c)))) = btL c ∧ thV (btL c) = true := by
  have hc : Bys c := λb hb => by have := h.all b hb; omega
  have hc2 : Bys (32 :: c) := λb hb => by
    rcases List.mem_cons.1 hb with rfl | hb
    · decide
    · exact hc b hb
  obtain ⟨e1, e2, e3⟩ := cut_hd hn hc2 hn2
  refine ⟨e3, e1, ?_, allV_L hc λb hb => tx_ok (h.all b hb)⟩
  unfold hvV
  rw [e2]
  exact trm_one (by decide) hc (by decide +kernel) (λb hb => tab_not (h.all b hb)) h.len.1
theorem dg_ct {n : Nat} (h : n < 10000) : CtOk (dg4 n) := ⟨by have := dg4_len n; omega, λb hb => by have := dg4_all h b hb; omega⟩
def hdL (t c : List Nat) (n : Nat) (b : List Nat) : List Nat := hL0 t ++ ([13, 10] ++ (hL1 ++ ([13, 10] ++ (hL2 c ++ ([13, 10] ++ (hL3 (dg4 n) ++ ([13, 10, 13, 10] ++ b)))))))
def h4L (t c : List Nat) (n : Nat) : List Nat := hL0 t ++ ([13, 10] ++ (hL1 ++ ([13, 10] ++ (hL2 c ++ ([13, 10] ++ hL3 (dg4 n))))))
theorem hdL_4 (t c : List Nat) (n : Nat) (b : List Nat) : hdL t c n b = h4L t c n ++ ([13, 10, 13, 10] ++ b) := by
  unfold hdL h4L
  simp only [fo_aa]
theorem hL0_all {t : List Nat} (h : TgOk t) : ∀ b ∈ hL0 t, b < 256 ∧ b ≠ 13 := λb hb => by
  unfold hL0 at hb
  rcases List.mem_append.1 hb with hb | hb
  · exact (by decide : ∀ x ∈ [80, 79, 83, 84], x < 256 ∧ x ≠ 13) b hb
  rcases List.mem_append.1 hb with hb | hb
  · exact (by decide : ∀ x ∈ [32], x < 256 ∧ x ≠ 13) b hb
  rcases List.mem_append.1 hb with hb | hb
  · have := h.all b hb; omega
  · exact (by decide : ∀ x ∈ [32] ++ [72, 84, 84, 80, 47, 49, 46, 49], x < 256 ∧ x ≠ 13) b hb
theorem hL_all {n c : List Nat} (hn : ∀ b ∈ n, b < 256 ∧ b ≠ 13) (h : CtOk c) : ∀ b ∈ n ++ ([58] ++ (32 :: c)), b < 256 ∧ b ≠ 13 := λb hb => by
  rcases List.mem_append.1 hb with hb | hb
  · exact hn b hb
  rcases List.mem_append.1 hb with hb | hb
  · rw [List.mem_singleton.1 hb]; decide
  rcases List.mem_cons.1 hb with rfl | hb
  · decide
  · have := h.all b hb; omega
theorem hN2_all : ∀ b ∈ hN2, b < 256 ∧ b ≠ 13 := by decide
theorem hN3_all : ∀ b ∈ hN3, b < 256 ∧ b ≠ 13 := by decide
theorem hL1_all : ∀ b ∈ hL1, b < 256 ∧ b ≠ 13 := by decide
theorem bys_of {l : List Nat} (h : ∀ b ∈ l, b < 256 ∧ b ≠ 13) : Bys l := λb hb => (h b hb).1
theorem no13 {l : List Nat} (h : ∀ b ∈ l, b < 256 ∧ b ≠ 13) : 13 ∉ l := λhm => (h 13 hm).2 rfl
theorem bys_app {a b : List Nat} (ha : Bys a) (hb : Bys b) : Bys (a ++ b) := λx hx => (List.mem_append.1 hx).elim (ha x) (hb x)
theorem bys_crlf : Bys [13, 10] := by unfold Bys; decide
theorem h4L_lt {t c : List Nat} {n : Nat} (ht : TgOk t) (hc : CtOk c) (hn : n < 10000) : Bys (h4L t c n) :=
  bys_app (bys_of (hL0_all ht)) (bys_app bys_crlf (bys_app (bys_of hL1_all) (bys_app bys_crlf (bys_app (bys_of (hL_all hN2_all hc)) (bys_app bys_crlf (bys_of (hL_all hN3_all (dg_ct hn))))))))
theorem sp_h4 {t c : List Nat} {n : Nat} (ht : TgOk t) (hc : CtOk c) (hn : n < 10000) : spW sCRLF (btL (h4L t c n)) = [btL (hL0 t), btL hL1, btL (hL2 c), btL (hL3 (dg4 n))] := by
  have b3 : Bys (hL3 (dg4 n)) := bys_of (hL_all hN3_all (dg_ct hn))
  have b2 : Bys (hL2 c) := bys_of (hL_all hN2_all hc)
  have b1 : Bys hL1 := bys_of hL1_all
  have b0 := bys_of (hL0_all ht)
  have t10 : Bys [10] := by unfold Bys; decide
  show spW (btL (13 :: [10])) _ = _
  unfold h4L
  show spW (btL (13 :: [10])) (btL (hL0 t ++ ((13 :: [10]) ++ (hL1 ++ ((13 :: [10]) ++ (hL2 c ++ ((13 :: [10]) ++ hL3 (dg4 n)))))))) = _
  rw [sp_hit b0 (by decide) (no13 (hL0_all ht)) t10 (bys_app b1 (bys_app bys_crlf (bys_app b2 (bys_app bys_crlf b3)))),
    sp_hit b1 (by decide) (no13 hL1_all) t10 (bys_app b2 (bys_app bys_crlf b3)),
    sp_hit b2 (by decide) (no13 (hL_all hN2_all hc)) t10 b3,
    sp_end b3 (by decide) (no13 (hL_all hN3_all (dg_ct hn)))]
theorem u8_no13 {l : List Nat} (h : ∀ b ∈ l, b < 256 ∧ b ≠ 13) : (13 : UInt8) ∉ u8M l := u8_no (c := 13) (bys_of h) (by decide) (no13 h)
theorem ix_hd {t c : List Nat} {n : Nat} {b : List Nat} (ht : TgOk t) (hc : CtOk c) (hn : n < 10000) : Lib.index (u8M (hdL t c n b)) [13, 10, 13, 10] = ((h4L t c n).length : Nat) := by
  have l0 := u8_no13 (hL0_all ht)
  have l1 := u8_no13 hL1_all
  have l2 : (13 : UInt8) ∉ u8M (hL2 c) := u8_no13 (hL_all hN2_all hc)
  have l3 : (13 : UInt8) ∉ u8M (hL3 (dg4 n)) := u8_no13 (hL_all hN3_all (dg_ct hn))
  have ln : ∀ l, (u8M l).length = l.length := λl => List.length_map _
  unfold hdL h4L
  simp only [u8_app]
  have c1 : u8M [13, 10] = [13, 10] := rfl
  have c2 : u8M [13, 10, 13, 10] = [13, 10, 13, 10] := rfl
  rw [c1, c2]
  have e3 : Lib.index (u8M (hL3 (dg4 n)) ++ ([13, 10, 13, 10] ++ u8M b)) [13, 10, 13, 10] = ((hL3 (dg4 n)).length : Nat) := by
    have := index_app (c := 13) (t := [10, 13, 10]) (u8M b) l3
    rw [ln] at this
    exact this
  have e2 := index_e4 (b := u8M (hL3 (dg4 n)) ++ ([13, 10, 13, 10] ++ u8M b)) (λx r e => by cases e; decide) (by rw [e3]; omega) l2
  have e1 := index_e4 (b := u8M (hL2 c) ++ ([13, 10] ++ (u8M (hL3 (dg4 n)) ++ ([13, 10, 13, 10] ++ u8M b)))) (λx r e => by cases e; decide) (by rw [e2, e3]; omega) l1
  have eNul := index_e4 (b := u8M hL1 ++ ([13, 10] ++ (u8M (hL2 c) ++ ([13, 10] ++ (u8M (hL3 (dg4 n)) ++ ([13, 10, 13, 10] ++ u8M b)))))) (λx r e => by cases e; decide) (by rw [e1, e2, e3]; omega) l0
  rw [eNul, e1, e2, e3, ln, ln, ln]
  simp only [fo_la, fo_lc, List.length_nil]
  omega
def wqR (t c b : List Nat) : RdX := ⟨btL (hdL t c b.length b), (h4L t c b.length).length, btL (hL0 t), [btL hL1, btL (hL2 c), btL (hL3 (dg4 b.length))], b.length⟩
def wqQ (t c b : List Nat) : WqX := ⟨btL [80, 79, 83, 84], btL t, btL [104], btL c, btL b, wqR t c b⟩
theorem hf1 : hfV (btL hL1) = (nmHo, btL [104]) := by decide +kernel
theorem sm2 : smV (btL hN2) = nmCT := by decide +kernel
theorem sm3 : smV (btL hN3) = nmCL := by decide +kernel
theorem fs_L {t c b : List Nat} (hc : CtOk c) (hb : b.length ≤ 4096) : (wqR t c b).fs = [(nmHo, btL [104]), (nmCT, btL c), (nmCL, btL (dg4 b.length))] := by
  have h2 := hv_L (n := hN2) (c := c) (bys_of hN2_all) (by decide) hc
  have h3 := hv_L (n := hN3) (c := dg4 b.length) (bys_of hN3_all) (by decide) (dg_ct (by omega))
  show [hfV (btL hL1), hfV (btL (hL2 c)), hfV (btL (hL3 (dg4 b.length)))] = _
  have e2 : hfV (btL (hL2 c)) = (nmCT, btL c) := by
    show (smV (cutA (btL (hL2 c)) 58), hvV (btL (hL2 c))) = _
    unfold hL2
    rw [h2.2.1, h2.2.2.1, sm2]
  have e3 : hfV (btL (hL3 (dg4 b.length))) = (nmCL, btL (dg4 b.length)) := by
    show (smV (cutA (btL (hL3 (dg4 b.length))) 58), hvV (btL (hL3 (dg4 b.length)))) = _
    unfold hL3
    rw [h3.2.1, h3.2.2.1, sm3]
  rw [hf1, e2, e3]
theorem ct_CL (x y z : ByteArray) : ctnV nmCL [(nmHo, x), (nmCT, y), (nmCL, z)] = (1, z) := by kernel_rfl
theorem ct_Ho (x y z : ByteArray) : ctnV nmHo [(nmHo, x), (nmCT, y), (nmCL, z)] = (1, x) := by kernel_rfl
theorem ct_CT (x y z : ByteArray) : ctnV nmCT [(nmHo, x), (nmCT, y), (nmCL, z)] = (1, y) := by kernel_rfl
theorem ct_TE (x y z : ByteArray) : ctnV nmTE [(nmHo, x), (nmCT, y), (nmCL, z)] = (0, ⟨#[]⟩) := by kernel_rfl
theorem h4_len {t c : List Nat} {n : Nat} (ht : TgOk t) (hc : CtOk c) : (h4L t c n).length ≤ 500 := by
  have := ht.len
  have := hc.len
  have := dg4_len n
  unfold h4L hL0 hL1 hL2 hL3 hN2 hN3
  simp only [fo_la, fo_lc, List.length_nil]
  omega
theorem wqR_ok {t c b : List Nat} (ht : TgOk t) (hc : CtOk c) (hb : Bys b) (hn : b.length ≤ 4096) : (wqR t c b).ok := by
  have h4 := h4_len (n := b.length) ht hc
  have hb4 := h4L_lt (n := b.length) ht hc (by omega)
  have hsz : (btL (hdL t c b.length b)).size = (h4L t c b.length).length + (4 + b.length) := by rw [btL_size, hdL_4, fo_la, fo_la] <;> rfl
  have hall : Bys (hdL t c b.length b) := by rw [hdL_4]; exact bys_app hb4 (bys_app (by unfold Bys; decide) hb)
  have hA := AtB.self hall
  rw [hdL_4] at hA
  have ex0 : (btL (hdL t c b.length b)).extract 0 (h4L t c b.length).length = btL (h4L t c b.length) := by rw [hdL_4]; exact hA.left.ext hb4 (by omega)
  have hfs := fs_L (t := t) hc hn
  have h2 := hv_L (n := hN2) (c := c) (bys_of hN2_all) (by decide) hc
  have h3 := hv_L (n := hN3) (c := dg4 b.length) (bys_of hN3_all) (by decide) (dg_ct (by omega))
  have hd : Bys (dg4 b.length) := λx hx => by have := dg4_all (n := b.length) (by omega) x hx; omega
  refine rdx_ok ?_ ?_ ?_ ?_ ?_ ?_ ?_ ?_ ?_ ?_ ?_ ?_ ?_ hn ?_
  · rw [hsz]; omega
  · exact ix_hd ht hc (by omega)
  · omega
  · show 3 ≤ 1000000; decide
  · rw [ex0]; exact sp_h4 ht hc (by omega)
  · rw [rql_L ht]
  · intro z hz
    rcases List.mem_cons.1 hz with rfl | hz
    · decide +kernel
    rcases List.mem_cons.1 hz with rfl | hz
    · refine ⟨h2.1, ?_, ?_⟩
      · unfold hL2; rw [h2.2.1]; decide +kernel
      · unfold hL2; rw [h2.2.2.1]; exact h2.2.2.2
    · rw [List.mem_singleton.1 hz]
      refine ⟨h3.1, ?_, ?_⟩
      · unfold hL3; rw [h3.2.1]; decide +kernel
      · unfold hL3; rw [h3.2.2.1]; exact h3.2.2.2
  · rw [show (RdX.mk _ _ _ _ _ : RdX).fs = (wqR t c b).fs from rfl, hfs, ct_CL]
  · rw [show (RdX.mk _ _ _ _ _ : RdX).fs = (wqR t c b).fs from rfl, hfs, ct_Ho]
  · rw [show (RdX.mk _ _ _ _ _ : RdX).fs = (wqR t c b).fs from rfl, hfs, ct_TE]
  · rw [show (RdX.mk _ _ _ _ _ : RdX).fs = (wqR t c b).fs from rfl, hfs, ct_CL]; exact au_dg (by omega)
  · rw [show (RdX.mk _ _ _ _ _ : RdX).fs = (wqR t c b).fs from rfl, hfs, ct_CL]; exact trm_all hd λx hx => dig_in (dg4_all (by omega) x hx)
  · rw [show (RdX.mk _ _ _ _ _ : RdX).fs = (wqR t c b).fs from rfl, hfs, ct_CL]; exact atN_dg (by omega)
  · rw [hsz]; omega
theorem wqQ_ok {t c b : List Nat} (ht : TgOk t) (hc : CtOk c) (hb : Bys b) (hn : b.length ≤ 4096) : (wqQ t c b).ok where
  x := wqR_ok ht hc hb hn
  s := by
    show btL (hdL t c b.length b) = wqT (wqQ t c b)
    unfold wqT
    show _ = btL [80, 79, 83, 84] ++ ⟨#[32]⟩ ++ btL t ++ ⟨#[32, 72, 84, 84, 80, 47, 49, 46, 49]⟩ ++ ⟨#[13, 10]⟩ ++ ⟨#[72, 111, 115, 116, 58, 32]⟩ ++ btL [104] ++ ⟨#[13, 10]⟩ ++ (⟨#[67, 111, 110, 116, 101, 110, 116, 45, 84, 121, 112, 101, 58, 32]⟩ ++ btL c ++ ⟨#[13, 10]⟩) ++ (⟨#[67, 111, 110, 116, 101, 110, 116, 45, 76, 101, 110, 103, 116, 104, 58, 32]⟩ ++ ⟨(Lib.itoa ((btL b).size : Nat)).toArray⟩ ++ ⟨#[13, 10]⟩ ++ ⟨#[13, 10]⟩ ++ btL b)
    rw [btL_size, itoa_dg (show b.length < 10000 by omega)]
    rw [show (⟨#[32]⟩ : ByteArray) = btL [32] from rfl, show (⟨#[32, 72, 84, 84, 80, 47, 49, 46, 49]⟩ : ByteArray) = btL [32, 72, 84, 84, 80, 47, 49, 46, 49] from rfl, show (⟨#[13, 10]⟩ : ByteArray) = btL [13, 10] from rfl, show (⟨#[72, 111, 115, 116, 58, 32]⟩ : ByteArray) = btL [72, 111, 115, 116, 58, 32] from rfl, show (⟨#[67, 111, 110, 116, 101, 110, 116, 45, 84, 121, 112, 101, 58, 32]⟩ : ByteArray) = btL [67, 111, 110, 116, 101, 110, 116, 45, 84, 121, 112, 101, 58, 32] from rfl, show (⟨#[67, 111, 110, 116, 101, 110, 116, 45, 76, 101, 110, 103, 116, 104, 58, 32]⟩ : ByteArray) = btL [67, 111, 110, 116, 101, 110, 116, 45, 76, 101, 110, 103, 116, 104, 58, 32] from rfl]
    simp only [btL_app]
    congr 1
    unfold hdL hL0 hL1 hL2 hL3 hN2 hN3
    simp only [fo_aa, List.cons_append, List.nil_append]
  r := by
    show [string (rqlV (btL (hL0 t))).1, .string (rqlV (btL (hL0 t))).2.1, .string (ctnV nmHo (wqR t c b).fs).2, .string (ctnV nmCT (wqR t c b).fs).2, .string ((btL (hdL t c b.length b)).extract ((h4L t c b.length).length + 4) ((h4L t c b.length).length + 4 + b.length))] = _
    rw [rql_L ht, fs_L hc hn, ct_Ho, ct_CT]
    have hb4 := h4L_lt (n := b.length) ht hc (by omega)
    have hall : Bys (hdL t c b.length b) := by rw [hdL_4]; exact bys_app hb4 (bys_app (by unfold Bys; decide) hb)
    have hA := AtB.self hall
    rw [hdL_4] at hA ⊢
    have h5 := hA.right.right
    rw [fo_za] at h5
    have h6 : AtB (btL (h4L t c b.length ++ ([13, 10, 13, 10] ++ b))) ((h4L t c b.length).length + 4) b := h5
    rw [h6.ext hb rfl] <;> rfl
  e := by
    show (h4L t c b.length).length + 4 + b.length = (btL (hdL t c b.length b)).size
    rw [btL_size, hdL_4, fo_la, fo_la]
    show _ = _ + (4 + _)
    omega
  c := by
    show (btL c).size ≠ 0
    rw [btL_size]
    have := hc.len
    omega
end
section
open Go
theorem put_abs {α : Type} {k : ByteArray} (v : α) : ∀ {l : List (ByteArray × α)}, (∀ p ∈ l, p.1 ≠ k) → putV k v l = l ++ [(k, v)]
  | [], _ => rfl
  | (j, u) :: r, h => by
    have hb : (j.toList == k.toList) = false := by
      cases e : (j.toList == k.toList) with
      | false => rfl
      | true => exact (h (j, u) fo_mc ((bEq_eq j k).1 e)).elim
    rw [putV, hb, fo_cf, put_abs v λp hp => h p (fo_mm _ hp)] <;> rfl
theorem fold_put {α : Type} : ∀ (l a : List (ByteArray × α)), ((a ++ l).map (·.1)).Nodup → l.foldl (λa p => putV p.1 p.2 a) a = a ++ l
  | [], a, _ => (fo_an a).symm
  | p :: l, a, h => by
    have h' : ((a ++ [p] ++ l).map (·.1)).Nodup := by rw [fo_aa]; exact h
    rw [List.foldl_cons, put_abs (k := p.1) p.2, fold_put l (a ++ [p]) h', fo_aa]
    · rfl
    · intro q hq e
      rw [List.map_append, List.nodup_append] at h
      exact h.2.2 q.1 (List.mem_map.2 ⟨q, hq, rfl⟩) p.1 (List.mem_map.2 ⟨p, fo_mc, rfl⟩) e
def kvU (l : Cvs) : List Fld := l.map λp => (utf p.1, utf p.2)
theorem job_U {l : Cvs} (h : ScKv l) (hn : ((kvW l).map (·.1)).Nodup) : jobV (kvU l) = wid (obX l) := by
  unfold jobV
  have e : (kvU l).foldl (λa f => putV (wideV f.1) (wideV f.2) a) [] = (kvW l).foldl (λa p => putV p.1 p.2 a) [] := by
    unfold kvU kvW
    rw [List.foldl_map, List.foldl_map]
    have : ∀ (m : Cvs) (a : TVs), (∀ p ∈ m, Scs p.1 ∧ Scs p.2) → m.foldl (λa p => putV (wideV (utf p.1)) (wideV (utf p.2)) a) a = m.foldl (λa p => putV (wid p.1) (wid p.2) a) a := by
      intro m
      induction m with
      | nil => intro a _; rfl
      | cons p m ih =>
        intro a hm
        have h1 := hm p fo_mc
        rw [List.foldl_cons, List.foldl_cons, wide_utf h1.1, wide_utf h1.2, ih _ λq hq => hm q (fo_mm _ hq)]
    exact this l [] h
  rw [e, fold_put (kvW l) [] hn, List.nil_append, obV_C h]
theorem kvP_T {l : Cvs} (hn : ((kvW l).map (·.1)).Nodup) : kvP (kvT l) = kvT l := by
  unfold kvP
  have e : (kvT l).map (·.1) = (kvW l).map (·.1) := by unfold kvT kvW; rw [List.map_map, List.map_map] <;> rfl
  exact fold_put (kvT l) [] (by rw [List.nil_append, e]; exact hn)
structure NmOk (n : ByteArray) : Prop where
  lo : n.size ≠ 0
  hi : n.size ≤ 60
  all : ∀ b ∈ baL n, 33 ≤ b ∧ b ≤ 126
theorem bt_mem {s : ByteArray} {i : Nat} (h : i < s.size) : bt s i ∈ baL s := by
  unfold bt baL
  rw [Array.getElem?_eq_getElem (show i < s.data.size from h)]
  exact List.mem_map.2 ⟨_, by simp, rfl⟩
theorem low_utf {l : List Nat} (h : ∀ b ∈ l, b < 128) : utC l = l := by
  induction l with
  | nil => rfl
  | cons b l ih =>
    rw [utC_cons, ih λc hc => h c (fo_mm _ hc)]
    have hb := h b fo_mc
    unfold encL
    rw [if_pos hb] <;> rfl
theorem ok_low {s : ByteArray} (h : ∀ b ∈ baL s, b < 128) : okV s = true := by
  have := ok_ut (cs := baL s) (Scs.low h)
  rw [low_utf h, btL_baL] at this
  exact this
theorem NmOk.ok {n : ByteArray} (h : NmOk n) : okV n = true := ok_low λb hb => by have := h.all b hb; omega
theorem NmOk.blk {n : ByteArray} (h : NmOk n) : run1 n (λb => !blk4 b) 0 = n.size :=
  rv_eq n _ _ 0 _ (fo_zl _) (fo_nr _) (by omega) (λj _ h2 => by
    have := h.all _ (bt_mem h2)
    unfold blk4
    rw [beq_false_of_ne (show bt n j ≠ 32 by omega), beq_false_of_ne (show bt n j ≠ 9 by omega), beq_false_of_ne (show bt n j ≠ 10 by omega), beq_false_of_ne (show bt n j ≠ 13 by omega)]
    rfl) (λh => by omega)
def flA (n : ByteArray) (l : List Fld) : List Fld := (sName, n) :: l
theorem nm_A {r : Req} {n : ByteArray} (h : NmOk n) (l : List Fld) : nmV r (flA n l) = some n := by
  unfold nmV flA
  have e : fndV sName ((sName, n) :: l) = some n := by
    rw [fndV, beq_self_eq_true] <;> rfl
  rw [e]
  show (bif decide (n.size = 0) || decide (run1 n (λb => !blk4 b) 0 < n.size) then none else some n) = _
  rw [h.blk, fo_df h.lo, fo_df (Nat.lt_irrefl _)] <;> rfl
theorem oth_A (n : ByteArray) {l : List Fld} (hl : ∀ f ∈ l, f.1 ≠ sName) : othV (flA n l) = l := by
  unfold othV flA
  have eNul : bEq sName sName = true := (bEq_eq _ _).2 rfl
  rw [List.filter_cons]
  show (if (!bEq sName sName) = true then _ else _) = _
  rw [eNul]
  show l.filter (λf => !bEq f.1 sName) = l
  refine List.filter_eq_self.2 λf hf => ?_
  cases e : bEq f.1 sName with
  | false => rfl
  | true => exact (hl f hf ((bEq_eq _ _).1 e)).elim
theorem sName_ok : okV sName = true := by decide +kernel
theorem all_A {n : ByteArray} (h : NmOk n) {l : List Fld} (hl : ∀ f ∈ l, okV f.1 = true ∧ okV f.2 = true) : ((flA n l).all λf => okV f.1 && okV f.2) = true := by
  unfold flA
  rw [List.all_cons, sName_ok, h.ok, Bool.true_and, Bool.true_and, List.all_eq_true]
  intro f hf
  rw [(hl f hf).1, (hl f hf).2] <;> rfl
def tS0 : List Nat := [47, 115, 48]
def rqA (n : ByteArray) (l : List Fld) : Req := ⟨btL [80, 79, 83, 84], btL tS0, btL [104], btL cFm, fwB (flA n l)⟩
def tQ (n : ByteArray) : List Nat := tS0 ++ ([63] ++ fmL (flA n []))
def rqB (n b : ByteArray) : Req := ⟨btL [80, 79, 83, 84], btL (tQ n), btL [104], btL cTx, b⟩
theorem frm_A (n : ByteArray) (l : List Fld) : frmV (rqA n l) = true := by
  have : frmV (rqA n l) = (bEq (btL [80, 79, 83, 84]) sPost && bEq (trmV tabs (cutA (btL cFm) 59)) sForm) := rfl
  rw [this]; decide +kernel
theorem frm_B (n b : ByteArray) : frmV (rqB n b) = false := by
  have : frmV (rqB n b) = (bEq (btL [80, 79, 83, 84]) sPost && bEq (trmV tabs (cutA (btL cTx) 59)) sForm) := rfl
  rw [this]; decide +kernel
theorem post_ok : (!bEq (btL [80, 79, 83, 84]) sPost && !bEq (btL [80, 79, 83, 84]) sGet) = false := by decide +kernel
theorem tg_A (n : ByteArray) (l : List Fld) : tgV (rqA n l) = btL [115, 48] := by
  have : tgV (rqA n l) = bif decide ((btL tS0).size > 0) && bt (btL tS0) 0 == 47 then (btL tS0).extract 1 (btL tS0).size else btL tS0 := rfl
  rw [this]; decide +kernel
theorem hear_A {n : ByteArray} {l : List Fld} {d : ByteArray} (h : NmOk n) (h1 : (fwB (flA n l)).size ≤ 4096) (h2 : l.length ≤ 31) (h3 : ∀ f ∈ l, okV f.1 = true ∧ okV f.2 = true) (h4 : ∀ f ∈ l, f.1 ≠ sName) (hd : (l = [] ∧ d = ⟨#[]⟩) ∨ (l ≠ [] ∧ jsV (jobV l) = some d)) : hearV (rqA n l) = .ok (btL [115, 48]) n d := by
  have ef : flsV (rqA n l) = some (flA n l) := by
    unfold flsV
    rw [tg_A, show fdV (cutB (btL [115, 48]) 63) = some [] by decide +kernel, frm_A]
    show (bif true then (match fdV (fwB (flA n l)) with | some m => some ([] ++ m) | none => none) else some []) = _
    rw [fd_fw (by unfold flA; simp) h1 (by unfold flA; rw [fo_lc]; omega)] <;> rfl
  have ed : datV (rqA n l) (flA n l) = .inl (some d) := by
    unfold datV
    rw [oth_A n h4, frm_A]
    rcases hd with ⟨e1, e2⟩ | ⟨e1, e2⟩
    · subst e1; subst e2
      rw [fo_df (by simp), fo_cf, Bool.not_true, fo_baf, fo_cf]
    · rw [fo_dt (show l.length > 0 from List.length_pos_iff.2 e1), fo_ct, e2]
  unfold hearV
  rw [show (rqA n l).m = btL [80, 79, 83, 84] from rfl, post_ok, fo_cf, ef]
  dsimp only
  rw [nm_A h]
  dsimp only
  rw [all_A h h3, fo_ct, ed]
  dsimp only
  rw [tg_A, show cutA (btL [115, 48]) 63 = btL [115, 48] by decide +kernel]
theorem fmA_lt (n : ByteArray) : Bys (fmL (flA n [])) := fmL_lt _
theorem tQ_ok {n : ByteArray} (h : NmOk n) : TgOk (tQ n) where
  hd := ⟨_, rfl⟩
  len := by
    have e := fwB_L (flA n [])
    have hz : (fwB (flA n [])).size ≤ 1 * (16 * 3 + 60 * 3 + 1 + 0) ∨ True := .inr trivial
    have e1 : fmL (flA n []) = cdL (baL sName) ++ ([61] ++ cdL (baL n)) := rfl
    have e2 : (cdL (baL sName)).length = 15 := by decide +kernel
    have e3 : (cdL (baL n)).length ≤ 3 * n.size := by
      have := cdV_size n
      rw [cdV_L, btL_size] at this
      exact this
    have := h.hi
    unfold tQ tS0
    rw [e1, fo_la, fo_la, fo_la, fo_la, e2]
    simp only [fo_lc, List.length_nil]
    omega
  all := λb hb => by
    unfold tQ tS0 at hb
    rcases List.mem_append.1 hb with hb | hb
    · exact (by decide : ∀ x ∈ [47, 115, 48], 33 ≤ x ∧ x ≤ 126) b hb
    rcases List.mem_append.1 hb with hb | hb
    · rw [List.mem_singleton.1 hb]; decide
    · exact (fmL_all _ b hb).2.2
theorem tS0_ok : TgOk tS0 := ⟨⟨_, rfl⟩, by decide, by decide⟩
theorem fwA_size {n : ByteArray} (h : NmOk n) : (fwB (flA n [])).size ≤ 252 := by
  have := (tQ_ok h).len
  rw [fwB_L, btL_size]
  unfold tQ tS0 at this
  rw [fo_la, fo_la] at this
  simp only [fo_lc, List.length_nil] at this
  omega
theorem hear_B {n b d : ByteArray} (h : NmOk n) (hb : okV b = true) (hb0 : b.size ≠ 0) (hd : jsV (quV (wideV b)) = some d) : hearV (rqB n b) = .ok (btL [115, 48]) n d := by
  have hl := fmA_lt n
  have etg : tgV (rqB n b) = btL ([115, 48] ++ ([63] ++ fmL (flA n []))) := by
    have eNul : tgV (rqB n b) = bif decide ((btL (tQ n)).size > 0) && bt (btL (tQ n)) 0 == 47 then (btL (tQ n)).extract 1 (btL (tQ n)).size else btL (tQ n) := rfl
    have hq : Bys (tQ n) := λb hb => by have := (tQ_ok h).all b hb; omega
    have hA : AtB (btL (tQ n)) (0 + 1) ([115, 48] ++ ([63] ++ fmL (flA n []))) := AtB.right (a := [47]) (AtB.self hq)
    have hz : (btL (tQ n)).size = 1 + ([115, 48] ++ ([63] ++ fmL (flA n []))).length := by
      rw [btL_size]
      show ([47] ++ ([115, 48] ++ ([63] ++ fmL (flA n [])))).length = _
      rw [fo_la] <;> rfl
    rw [eNul, bt_btL hq, fo_dt (by rw [hz]; omega)]
    show (btL (tQ n)).extract 1 (btL (tQ n)).size = _
    exact hA.ext (bys_app (by unfold Bys; decide) (bys_app (by unfold Bys; decide) hl)) (by rw [hz])
  have hc := cut_pc (a := [115, 48]) (b := fmL (flA n [])) (c := 63) (by decide) (by unfold Bys; decide) hl (by decide)
  have hfz := fwA_size h
  have ef : flsV (rqB n b) = some (flA n []) := by
    unfold flsV
    rw [etg, hc.2.1, ← fwB_L, fd_fw (by unfold flA; simp) (by omega) (by unfold flA; simp), frm_B] <;> rfl
  have ed : datV (rqB n b) (flA n []) = .inl (some d) := by
    unfold datV
    rw [oth_A n (λf hf => by cases hf), frm_B, fo_df (by simp), fo_cf]
    show (bif decide (b.size > 0) && !false then (bif okV b then (Sum.inl (jsV (quV (wideV b))) : Option ByteArray ⊕ Unit) else Sum.inr ()) else _) = _
    rw [fo_dt (by omega), hb, hd] <;> rfl
  unfold hearV
  rw [show (rqB n b).m = btL [80, 79, 83, 84] from rfl, post_ok, fo_cf, ef]
  dsimp only
  rw [nm_A h]
  dsimp only
  rw [all_A h (λf hf => by cases hf), fo_ct, ed]
  dsimp only
  rw [etg, hc.1]
end
section
open Go
structure FdOk (f : Fld) : Prop where
  sz : f.1.size + f.2.size ≤ 60
  k : okV f.1 = true
  v : okV f.2 = true
  n : f.1 ≠ sName
theorem put_mem2 {α : Type} {k : ByteArray} {v : α} {p : ByteArray × α} : ∀ {l : List (ByteArray × α)}, p ∈ putV k v l → p = (k, v) ∨ p ∈ l
  | [], h => .inl (by rw [putV, List.mem_singleton] at h; exact h)
  | (j, u) :: r, h => by
    rw [putV] at h
    cases hb : (j.toList == k.toList) with
    | true =>
      rw [hb, fo_ct] at h
      rcases List.mem_cons.1 h with rfl | h
      · exact .inl (by rw [(bEq_eq j k).1 hb])
      · exact .inr (fo_mm _ h)
    | false =>
      rw [hb, fo_cf] at h
      rcases List.mem_cons.1 h with rfl | h
      · exact .inr fo_mc
      · exact (put_mem2 h).imp id (fo_mm _)
structure Cv (p : ByteArray × ByteArray) (c : List Nat × List Nat) : Prop where
  k : Scs c.1
  v : Scs c.2
  e : p = (wid c.1, wid c.2)
  sz : (unL c.1).length + (unL c.2).length ≤ 60
  n : utf c.1 ≠ sName
theorem cv_of {f : Fld} (h : FdOk f) : ∃ c, Cv (wideV f.1, wideV f.2) c := by
  obtain ⟨a, a1, a2⟩ := ok_back h.k
  obtain ⟨b, b1, b2⟩ := ok_back h.v
  have l1 := unL_le a
  have l2 := unL_le b
  have z := h.sz
  have hn := h.n
  rw [a2, b2, btL_size, btL_size] at z
  rw [a2] at hn
  exact ⟨(a, b), a1, b1, by rw [a2, b2, wide_ut a1, wide_ut b1] <;> rfl, by dsimp only; omega, hn⟩
theorem kvF_cv : ∀ (fs : List Fld) (a : TVs), (∀ p ∈ a, ∃ c, Cv p c) → (∀ f ∈ fs, FdOk f) → ∀ p ∈ fs.foldl (λa f => putV (wideV f.1) (wideV f.2) a) a, ∃ c, Cv p c
  | [], a, h, _ => h
  | f :: r, a, h, hf => kvF_cv r _ (λp hp => by
      rcases put_mem2 hp with e | hp
      · rw [e]; exact cv_of (hf f fo_mc)
      · exact h p hp) λg hg => hf g (fo_mm _ hg)
structure KvC (a : TVs) (l : Cvs) : Prop where
  e : a = kvW l
  s : ScKv l
  z : ∀ p ∈ l, (unL p.1).length + (unL p.2).length ≤ 60
  n : ∀ p ∈ l, utf p.1 ≠ sName
theorem cv_list : ∀ {a : TVs}, (∀ p ∈ a, ∃ c, Cv p c) → ∃ l, KvC a l
  | [], _ => ⟨[], rfl, λ_ h => (by cases h), λ_ h => (by cases h), λ_ h => (by cases h)⟩
  | p :: a, h => by
    obtain ⟨c, hc⟩ := h p fo_mc
    obtain ⟨l, hl⟩ := cv_list λq hq => h q (fo_mm _ hq)
    refine ⟨c :: l, ?_, λq hq => ?_, λq hq => ?_, λq hq => ?_⟩
    · rw [hc.e, hl.e] <;> rfl
    · rcases List.mem_cons.1 hq with rfl | hq
      · exact ⟨hc.k, hc.v⟩
      · exact hl.s q hq
    · rcases List.mem_cons.1 hq with rfl | hq
      · exact hc.sz
      · exact hl.z q hq
    · rcases List.mem_cons.1 hq with rfl | hq
      · exact hc.n
      · exact hl.n q hq
theorem kvF_len : ∀ (fs : List Fld) (a : TVs), (fs.foldl (λa f => putV (wideV f.1) (wideV f.2) a) a).length ≤ a.length + fs.length
  | [], _ => fo_nr _
  | f :: r, a => by
    have h1 := kvF_len r (putV (wideV f.1) (wideV f.2) a)
    have h2 := putT_len (wideV f.1) (wideV f.2) a
    rw [List.foldl_cons, fo_lc]
    omega
theorem kvF_nd : ∀ (fs : List Fld) (a : TVs), (a.map (·.1)).Nodup → ((fs.foldl (λa f => putV (wideV f.1) (wideV f.2) a) a).map (·.1)).Nodup
  | [], _, h => h
  | f :: r, a, h => kvF_nd r _ (putT_nodup _ _ a h)
theorem kv_all {fs : List Fld} (h : ∀ f ∈ fs, FdOk f) (hn : fs.length ≤ 20) : ∃ l, KvC (kvF fs) l ∧ l.length ≤ 20 ∧ ((kvW l).map (·.1)).Nodup := by
  obtain ⟨l, hl⟩ := cv_list (kvF_cv fs [] (λ_ h => by cases h) h)
  have h1 := kvF_len fs []
  have h2 := kvF_nd fs [] .nil
  have e := hl.e
  rw [e] at h1 h2
  unfold kvW at h1
  rw [List.length_map, List.length_nil] at h1
  exact ⟨l, hl, by omega, h2⟩
theorem ob_small {l : Cvs} (h : ∀ p ∈ l, (unL p.1).length + (unL p.2).length ≤ 60) (hn : l.length ≤ 20) : (wid (obX l)).size ≤ 16384 := by
  have := obC_len h
  have : l.length * (6 * 60 + 6) ≤ 20 * (6 * 60 + 6) := Nat.mul_le_mul_right _ hn
  omega
theorem js_ob {l : Cvs} (hs : ScKv l) (hz : (wid (obX l)).size ≤ 16384) : jsV (wid (obX l)) = some (utf (obX l)) := by
  unfold jsV
  rw [fo_dt hz, nr_wid (obC_sc hs)] <;> rfl
theorem utC_len : ∀ cs : List Nat, cs.length ≤ (utC cs).length
  | [] => fo_nr _
  | c :: cs => by
    rw [utC_cons, fo_la, fo_lc]
    have := encL_pos c
    have := utC_len cs
    omega
def sEmpty : ByteArray := ⟨#[123, 125]⟩
theorem ob_nil : utf (obX []) = sEmpty := by decide +kernel
theorem ob_cons {l : Cvs} (h : l ≠ []) : utf (obX l) ≠ sEmpty := by
  intro e
  have h1 := congrArg ByteArray.size e
  have h2 := utC_len (obX l)
  unfold utf at h1
  rw [btL_size, show sEmpty.size = 2 from rfl] at h1
  cases l with
  | nil => exact h rfl
  | cons p r =>
    unfold obX obM mbC qxC at h2
    simp only [fo_la, fo_lc, List.length_nil, fo_ct] at h2
    unfold obX obM mbC qxC at h1
    simp only [fo_ct] at h1
    rw [h1] at h2
    omega
theorem js_qu {cs : List Nat} (h : Scs cs) (hz : (wid (qxC cs)).size ≤ 16384) : jsV (wid (qxC cs)) = some (utf (qxC cs)) := by
  unfold jsV
  rw [fo_dt hz, nr_wid (quC_sc h)] <;> rfl
theorem kvU_ok {l : Cvs} (hs : ScKv l) (hn : ∀ p ∈ l, utf p.1 ≠ sName) : (∀ f ∈ kvU l, okV f.1 = true ∧ okV f.2 = true) ∧ ∀ f ∈ kvU l, f.1 ≠ sName := by
  refine ⟨λf hf => ?_, λf hf => ?_⟩
  · obtain ⟨p, hp, rfl⟩ := List.mem_map.1 hf
    exact ⟨ok_utf (hs p hp).1, ok_utf (hs p hp).2⟩
  · obtain ⟨p, hp, rfl⟩ := List.mem_map.1 hf
    exact hn p hp
end
section
open Go
set_option maxHeartbeats 1000000
structure RqG (F : Atom) : Prop where
  gl : Gl F
  ut : Utf F
  gn : gN.ok F
  gt : gT.ok F
  tx : TxG F
theorem RqG.sub {A B : Atom} (h : RqG A) (hs : Sub A B) : RqG B := ⟨h.gl.sub hs, h.ut.sub hs, λb i v e => (h.gn b i v e).sub hs, λb i v e => (h.gt b i v e).sub hs, h.tx.sub hs⟩
def pkL : List Value := [.int .i64 0, .int .i64 0, .int .i64 6, .string ⟨#[]⟩, .string ⟨#[104]⟩, .int .i64 81, .string ⟨#[47, 120]⟩, .string ⟨#[101]⟩, .string ⟨#[]⟩, .string ⟨#[]⟩, .string ⟨#[]⟩, .string ⟨#[]⟩, .string ⟨#[]⟩, .string uJs]
def rqL : List Value := [.string ⟨#[80, 79, 83, 84]⟩, .string ⟨#[47, 120]⟩, .string ⟨#[104, 58, 56, 49]⟩, .string uFm, .string uBd]
abbrev reqI : Con where
  X := Unit
  Y := Unit
  args _ := [.agg pkL.toArray]
  pre _ := []
  cond _ := True
  rdc _ F := RqG F
  rel _ _ := True
  val _ _ := .returned (.tuple #[.agg rqL.toArray, .int .i64 0])
  post _ _ := []
  rmono _ _ _ hs h := h.sub hs
structure RqC where
  b1 : Nat
  b2 : Nat
  b3 : Nat
  h : Nat
structure RqS where
  i : Nat
  r : Row
  k : Row
  b1 : Nat
  b2 : Nat
  b5 : Nat
  h : Nat
  n : Int
def at4u (j : Nat) : List LH := [.aq j, .aq j, .aq j, .aq j]
structure RqS.ok (d : RqS) : Prop where
  i : d.i ≤ 1
  r : IsRow 36 2 (fCs (uFl.take (d.i + 1))) d.r
  n : d.r.n = d.i + 1
  k : IsRow 9 1 [.string ⟨#[0, 97]⟩] d.k
  m : d.k.n = 1
def eFvv (b : Nat) : Atom := .cells b [.string ⟨#[]⟩, .string ⟨#[]⟩, .string ⟨#[]⟩, .string ⟨#[]⟩, .string ⟨#[]⟩] 45
def qFvv (b : Nat) : Atom := .cells b [.string ⟨#[80, 79, 83, 84]⟩, .string ⟨#[47, 120]⟩, .string ⟨#[104, 58, 56, 49]⟩, .string ⟨#[]⟩, .string ⟨#[]⟩] 45
def rquCut (_x : Unit) (F : Atom) : Nat → Option Inv := fun
  | 9 => some { X := RqC, P := λ_ => True, mu := λ_ => 0, lv := λd => [(2, .pointer (some ⟨d.b1, 0, none⟩)), (4, .pointer (some ⟨d.b2, 0, none⟩)), (5, .slice (some ⟨d.b3, 0, none⟩) 1 1), (6, .pointer (some ⟨d.h, 0, none⟩)), (7, .string uWd), (9, .int .i64 0)], st := λd => [F, eFvv d.b1, qFvv d.b2, .cells d.b3 [.string uNm, .string ⟨#[101]⟩] 36, ho0 d.h 10000] }
  | _ => none
def rquInv (_x : Unit) (F : Atom) : Nat → Option Inv := fun
  | 0 => some { X := RqS, P := λd => d.ok, mu := λd => 1 - d.i, lv := λd => [(2, .pointer (some ⟨d.b1, 0, none⟩)), (4, .pointer (some ⟨d.b2, 0, none⟩)), (5, .slice d.r.a d.r.n d.r.cap), (6, .pointer (some ⟨d.h, 0, none⟩)), (9, .int .i64 0), (10, .pointer (some ⟨d.b5, 0, none⟩)), (11, .int .i64 0), (12, .bool true), (91, .slice d.k.a d.k.n d.k.cap), (92, .int .i64 1), (93, .int .i64 d.i)], st := λd => [F, eFvv d.b1, qFvv d.b2, d.r.A, hoA d.h d.n uKv, .cells d.b5 [.int .i64 5, .float .f64 0, .string ⟨#[]⟩, .int .i64 0] 30, d.k.A] }
  | _ => none
abbrev q122 : List Value := [fo_vi 0, fo_vi 0, fo_vi 6, fo_vs ⟨#[]⟩, fo_vs ⟨#[104]⟩, fo_vi 81, fo_vs ⟨#[47, 120]⟩, fo_vs ⟨#[101]⟩, fo_vs ⟨#[]⟩, fo_vs ⟨#[]⟩, fo_vs ⟨#[]⟩, fo_vs ⟨#[]⟩, fo_vs ⟨#[]⟩, fo_vs uJs]
abbrev q46 (F : Atom) (G E D A y : Nat) := [(0, F), (1000, fo_cl G q122 53), (1001, fo_cl E q4 45), (1002, fo_cl D [fo_vs ⟨#[80, 79, 83, 84]⟩, fo_vs ⟨#[47, 120]⟩, fo_vs ((ByteArray.mk #[104]) ++ ((ByteArray.mk #[58]) ++ (ByteArray.mk #[56, 49]))), fo_vs ⟨#[]⟩, fo_vs ⟨#[]⟩] 45), (1003, fo_cl A [fo_vs ⟨#[95, 115, 99, 120, 109, 108, 101, 118, 101, 110, 116, 110, 97, 109, 101]⟩, fo_vs ⟨#[101]⟩] 36), (1004, fo_cl y q23 60)]
abbrev q306 (a : RqC) : Option Addr := some ⟨a.h, 0, none⟩
abbrev q25 : List Value := [fo_vs ⟨#[80, 79, 83, 84]⟩, fo_vs ⟨#[47, 120]⟩, fo_vs ⟨#[104, 58, 56, 49]⟩, fo_vs ⟨#[]⟩, fo_vs ⟨#[]⟩]
abbrev q211 (F : Atom) (a : RqC) := [(0, F), (1, fo_cl a.b1 q4 45), (2, fo_cl a.b2 q25 45), (3, fo_cl a.b3 [fo_vs uNm, fo_vs ⟨#[101]⟩] 36), (4, fo_cl a.h q23 60)]
abbrev q307 (a : RqS) : Option Addr := some ⟨a.h, 0, none⟩
abbrev q92 (F : Atom) (a : RqS) := [(0, F), (1, fo_cl a.b1 q4 45), (2, fo_cl a.b2 q25 45), (3, a.r.A), (4, fo_pr (Ex.rest (hoR uKv) (hoB a.h a.n uKv))), (5, fo_cl a.b5 q12 30), (6, a.k.A)]
abbrev q159 (F : Atom) (n : RqS) (k : HhX) (i : Nat) := fo_aR [(0, F), (1, fo_cl n.b1 q4 45), (2, fo_cl n.b2 q25 45), (3, n.r.A), (4, fo_pr (Ex.rest (hoR uKv) (hoB k.b k.n uKv))), (5, fo_cl n.b5 q12 30), (6, n.k.A), (2007, fo_cl i q34 30)] []
abbrev q142 : List Value := [fo_vs (uNm, (ByteArray.mk #[101])).fst, fo_vs (uNm, (ByteArray.mk #[101])).snd, fo_vs ((ByteArray.mk #[97]), (ByteArray.mk #[49])).fst, fo_vs ((ByteArray.mk #[97]), (ByteArray.mk #[49])).snd]
abbrev q30 : List Value := [fo_vs ⟨#[80, 79, 83, 84]⟩, fo_vs ⟨#[47, 120]⟩, fo_vs ⟨#[104, 58, 56, 49]⟩, fo_vs ⟨#[97, 112, 112, 108, 105, 99, 97, 116, 105, 111, 110, 47, 120, 45, 119, 119, 119, 45, 102, 111, 114, 109, 45, 117, 114, 108, 101, 110, 99, 111, 100, 101, 100]⟩, fo_vs uBd]
theorem req_vc (x : PUnit) (F : Atom) (hc : reqI.cond x) (hr : reqI.rdc x F) :
 ∀(G E : Nat), fo_sm G 2 ∧ fo_sm G 6 ∧ fo_sm G 4 ∧ ∀(D : Nat), fo_s5 D (fo_sm G 5 ∧ true = true ∧ fo_sm D 2 ∧ fo_sm G 5 ∧ fo_C2 31 it81 q76 q60 [fo_vi 81] (fo_aR [(0, F), (1000, fo_cl G q122 53), (1001, fo_cl E q4 45), (1002, fo_cl D [fo_vs ⟨#[80, 79, 83, 84]⟩, fo_vs ⟨#[47, 120]⟩, fo_vs ⟨#[104]⟩, fo_vs ⟨#[]⟩, fo_vs ⟨#[]⟩] 45)] []) (λC B => 3 ≤ 9223372036854775807 ∧ 4 ≤ 9223372036854775807 ∧ fo_sm D 2 ∧ fo_sm G 7 ∧ ∀(A : Nat), T83 [fo_vi 10000] (λz y => (fo_sm G 13 ∧ fo_C2 32 wdI q76 (λ_ => Utf) [fo_vs uJs] (fo_aR (q46 F G E D A y) []) (λc b => ∃(a : RqC), True ∧ (fo_vp (q17 E) = fo_vp (some ⟨a.b1, 0, none⟩) ∧ fo_vp (q17 D) = fo_vp (some ⟨a.b2, 0, none⟩) ∧ fo_vl (q17 A) 1 1 = fo_vl (some ⟨a.b3, 0, none⟩) 1 1 ∧ fo_vp (q17 y) = fo_vp (q306 a) ∧ fo_vs uWd = fo_vs uWd ∧ fo_vi 0 = fo_vi 0 ∧ True) ∧ Ent (q46 F G E D A y) (q211 F a))) ∧ fo_vA λ(w : RqC) _ => True → fo_C4 33 pzI q336 (λ_ rr => gN.ok rr ∧ Utf rr) (λ_ _ => True) [fo_vp (q306 w), fo_vs uWd] [fo_cl w.h q23 60] (fo_aR (q211 F w) [4]) (λu t => ∀(s : Nat), fo_sm s 0 ∧ fo_sm s 1 ∧ fo_sm s 2 ∧ fo_sm s 3 ∧ fo_sm s 0 ∧ fo_sm s 3 ∧ fo_C3 34 kiI (λ_ => True) [fo_vp (q306 w), fo_vi 0] [fo_pr (Ex.rest (hoR uKv) (hoB u.b t uKv))] (λr q => fo_sm s 3 ∧ fo_C6 35 keI (λ_ => True) (λ_ o => IsRow 9 1 [fo_vs ⟨#[0, 97]⟩] o ∧ o.n = 1) [fo_vp (q306 w), fo_vi 0] [fo_pr (Ex.rest (hoR uKv) (hoB r.b r.n uKv))] (λp o => (∃(a : RqS), a.ok ∧ (fo_vp (some ⟨w.b1, 0, none⟩) = fo_vp (some ⟨a.b1, 0, none⟩) ∧ fo_vp (some ⟨w.b2, 0, none⟩) = fo_vp (some ⟨a.b2, 0, none⟩) ∧ fo_vl (some ⟨w.b3, 0, none⟩) 1 1 = fo_vl a.r.a a.r.n a.r.cap ∧ fo_vp (q306 w) = fo_vp (q307 a) ∧ fo_vi 0 = fo_vi 0 ∧ fo_vp (q17 s) = fo_vp (some ⟨a.b5, 0, none⟩) ∧ fo_vi 0 = fo_vi 0 ∧ fo_vb ((1 : Int) == (1 : Int)) = fo_vb true ∧ fo_vl o.a o.n o.cap = fo_vl a.k.a a.k.n a.k.cap ∧ fo_vi ↑o.n = fo_vi 1 ∧ fo_vi 0 = fo_vi ↑a.i ∧ True) ∧ Ent [(0, F), (1, fo_cl w.b1 q4 45), (2, fo_cl w.b2 q25 45), (3, fo_cl w.b3 [fo_vs uNm, fo_vs ⟨#[101]⟩] 36), (4, fo_pr (Ex.rest (hoR uKv) (hoB p.b p.n uKv))), (1005, fo_cl s q12 30), (1006, o.A)] (q92 F a)) ∧ fo_vA λ(n : RqS) _ => n.ok → fo_Bd ((n.i : Int) < 1) (T48 (opIn Tryz.f14 14 0) [fo_vl n.k.a n.k.n n.k.cap, fo_vi ↑n.i] (λl => Look n.k.A ⟨l.b, l.o + l.n.toNat * 1, none⟩ (fo_vs ⟨#[0, 97]⟩) ∧ fo_sm n.b5 3 ∧ fo_C3 36 owI (λ_ => True) [fo_vp (q307 n), fo_vi 0, fo_vs ⟨#[0, 97]⟩] [fo_pr (Ex.rest (hoR uKv) (hoB n.h n.n uKv))] (λk j => ∀(i : Nat), fo_sm i 0 ∧ fo_sm i 1 ∧ fo_sm i 2 ∧ fo_sm i 3 ∧ fo_C2 37 nrI q76 q60 [fo_vs ⟨#[0, 97]⟩] (q159 F n k i) (λh g => fo_sm i 0 ∧ fo_sm i 1 ∧ fo_sm i 2 ∧ fo_sm i 3 ∧ fo_C2 38 bvnC q336 (λ_ rr => Utf rr ∧ gT.ok rr) [fo_vp (q307 n), agg ⟨q34⟩] (q159 F n k i) (λf e => ∀(d : Nat), T29 (opIn Tryz.f14 17 7) [fo_vl n.r.a n.r.n n.r.cap, fo_vl (q17 d) 1 1] [n.r.A] (fo_aR [(0, F), (1, fo_cl n.b1 q4 45), (2, fo_cl n.b2 q25 45), (3, n.r.A), (4, fo_pr (Ex.rest (hoR uKv) (hoB k.b k.n uKv))), (5, fo_cl n.b5 q12 30), (6, n.k.A), (2007, fo_cl i q34 30), (2008, fo_cl d [fo_vs ⟨#[97]⟩, fo_vs ⟨#[49]⟩] 36)] [3]) (λc b => fo_rI ((n.i : Int) + 1) ∧ ∃(a : RqS), a.ok ∧ (fo_vp (some ⟨n.b1, 0, none⟩) = fo_vp (some ⟨a.b1, 0, none⟩) ∧ fo_vp (some ⟨n.b2, 0, none⟩) = fo_vp (some ⟨a.b2, 0, none⟩) ∧ fo_vl b.a b.n b.cap = fo_vl a.r.a a.r.n a.r.cap ∧ fo_vp (q307 n) = fo_vp (q307 a) ∧ fo_vi 0 = fo_vi 0 ∧ fo_vp (some ⟨n.b5, 0, none⟩) = fo_vp (some ⟨a.b5, 0, none⟩) ∧ fo_vi 0 = fo_vi 0 ∧ fo_vb true = fo_vb true ∧ fo_vl n.k.a n.k.n n.k.cap = fo_vl a.k.a a.k.n a.k.cap ∧ fo_vi 1 = fo_vi 1 ∧ fo_vi ((n.i : Int) + 1) = fo_vi ↑a.i ∧ True) ∧ Ent [(0, F), (1, fo_cl n.b1 q4 45), (2, fo_cl n.b2 q25 45), (3, b.A), (4, fo_pr (Ex.rest (hoR uKv) (hoB k.b k.n uKv))), (5, fo_cl n.b5 q12 30), (6, n.k.A), (2007, fo_cl i q34 30), (2008, fo_cl d [fo_vs ⟨#[97]⟩, fo_vs ⟨#[49]⟩] 36)] (q92 F a) ∧ 1 - a.i < 1 - n.i)))))) (fo_C2 39 fwI (λd => IsSrc 2 q142 d.a d.n ∧ d.n ≤ 1000000) (λd rr => Srcd rr d.a q142) [fo_vl n.r.a n.r.n n.r.cap] (fo_aR (q92 F n) []) (λd c => fo_sm n.b2 3 ∧ fo_sm n.b2 4 ∧ fo_s5 n.b2 (fo_C2 41 wqI q76 (λ_ rr => Gl rr ∧ TxG rr) [agg ⟨q30⟩] (fo_aR [(0, F), (1, fo_cl n.b1 q4 45), (2, fo_cl n.b2 q30 45), (3, n.r.A), (4, fo_pr (Ex.rest (hoR uKv) (hoB n.h n.n uKv))), (5, fo_cl n.b5 q12 30), (6, n.k.A)] []) (λb a => fo_s5 n.b2 (fo_s5 n.b1 (fo_s5 n.b1 (Done reqI x F (fo_rt (tuple { toList := [agg { toList := q30 }, fo_vi 0] })) [(0, F), (1, fo_cl n.b1 q30 45), (2, fo_cl n.b2 q30 45), (3, n.r.A), (4, fo_pr (Ex.rest (hoR uKv) (hoB n.h n.n uKv))), (5, fo_cl n.b5 q12 30), (6, n.k.A)]))))))))))))) := by
  delta q76 q60 q122 q4 T83 q23 q46 q17 q306 q25 q211 q336 q307 q12 q92 q175 T48 q34 q159 q293 q261 q149 T29 q142 q30 fo_aR fo_sm fo_rI fo_s5 fo_C0 fo_C2 fo_C3 fo_C4 fo_C6 fo_O4 fo_vi fo_vs fo_vb fo_vp fo_vl fo_cl fo_pr fo_Bd fo_rt fo_vA
  have hr : RqG F := hr
  have fr : ∀ (S : St) (touch : List Nat), 0 ∉ touch → gt S 0 = F → RqG (.pred (rest S touch)) := λS touch h e => hr.sub (sub_rest (A := F) 0 h e)
  intro b b1
  refine ⟨⟨rfl, rfl⟩, ⟨rfl, rfl⟩, ⟨rfl, rfl⟩, λb2 => ⟨⟨rfl, rfl⟩, ⟨rfl, rfl⟩, ⟨rfl, rfl⟩, ⟨rfl, rfl⟩, ⟨rfl, rfl⟩, ⟨rfl, rfl⟩, rfl, ⟨rfl, rfl⟩, ⟨rfl, rfl⟩, it81_ok, rfl, (), rfl, rfl, fo_tv, noG_ok, λ_ _ => ⟨by decide, by decide, ⟨rfl, rfl⟩, ⟨rfl, rfl⟩, λb3 => ⟨nwa_ok, rfl, (), rfl, rfl, fo_tv, fo_tv, λh _ => ⟨⟨⟨rfl, rfl⟩, wdI_ok, rfl, (), rfl, rfl, fo_tv, (fr _ _ (by simp) rfl).ut, λ_ _ => ⟨⟨b1, b2, b3, h⟩, fo_tv, ⟨rfl, rfl, rfl, rfl, rfl, rfl, fo_tv⟩, Ent.pick [0, 1001, 1002, 1003, 1004] rfl rfl⟩⟩, ?_⟩⟩⟩⟩⟩
  rintro ⟨b1, b2, b3, h⟩ js -
  refine ⟨pzI_ok, rfl, ⟨h⟩, rfl, rfl, fo_tv, ⟨(fr _ _ (by simp) rfl).gn, (fr _ _ (by simp) rfl).ut⟩, λn _ b5 => ⟨⟨rfl, rfl⟩, ⟨rfl, rfl⟩, ⟨rfl, rfl⟩, ⟨rfl, rfl⟩, ⟨rfl, rfl⟩, ⟨rfl, rfl⟩, kiI_ok, rfl, ⟨h, n, uKv, ⟨#[]⟩⟩, rfl, rfl, fo_tv, fo_tv, λ_ _ => ⟨⟨rfl, rfl⟩, keI_ok, rfl, ⟨h, n, uKv, ⟨#[]⟩⟩, rfl, rfl, fo_tv, fo_tv, λk ⟨k1, k2⟩ =>
    ⟨⟨⟨0, ⟨some ⟨b3, 0, none⟩, 1, 1, .cells b3 [.string uNm, .string ⟨#[101]⟩] 36⟩, k, b1, b2, b5, h, n⟩, ⟨fo_zl _, .blk b3 1 1 [] rfl rfl (by decide), rfl, k1, k2⟩, ⟨rfl, rfl, rfl, rfl, rfl, rfl, rfl, rfl, rfl, by rw [k2] <;> rfl, rfl, fo_tv⟩, Ent.pick [0, 1, 2, 3, 4, 1005, 1006] rfl rfl⟩, ?_⟩⟩⟩⟩
  rintro ⟨i, r, k, b1, b2, b5, h, n⟩ js ⟨g1, g2, g3, g4, g5⟩
  dsimp only at g1 g2 g3 g4 g5 ⊢
  refine br_decide (λq => ?_) (λq => ?_)
  · have hi : i = 0 := by omega
    subst hi
    have g4' := g4
    cases g4' with
    | nil e => cases e
    | blk kb kn kc sp hl hs hn =>
      have g5 : kn = 1 := g5
      refine ⟨ixq_ok 1 rfl rfl rfl rfl, ⟨kb, 0, kn, kc, 0⟩, rfl, ⟨fo_ir _, by dsimp only; omega⟩, Look.cells rfl, ⟨rfl, rfl⟩, owI_ok, rfl, ⟨h, n, uKv, ⟨#[]⟩⟩, rfl, rfl, fo_tv, fo_tv, λ_ _ bb => ⟨⟨rfl, rfl⟩, ⟨rfl, rfl⟩, ⟨rfl, rfl⟩, ⟨rfl, rfl⟩, nrI_ok, rfl, (), rfl, rfl, fo_tv, noG_ok, λ_ _ => ⟨⟨rfl, rfl⟩, ⟨rfl, rfl⟩, ⟨rfl, rfl⟩, ⟨rfl, rfl⟩, bvn_ok, rfl, ⟨h⟩, rfl, rfl, fo_tv, ⟨(fr _ _ (by simp) rfl).ut, (fr _ _ (by simp) rfl).gt⟩, λ_ _ b4 =>
        ⟨append_ok (P := Tryz.prog) 2 32 rfl rfl rfl rfl rfl rfl rfl (by decide), rfl, ⟨r, fCs (uFl.take 1), some ⟨b4, 0, none⟩, 1, 1, fCs [(⟨#[97]⟩, ⟨#[49]⟩)]⟩, rfl, rfl, ⟨g2, rfl, λu hu => fCs_one hu, by dsimp only; omega, by dsimp only; omega, λe => by cases e⟩, λa ha => ?_, λy ⟨y1, y2, _⟩ => ⟨by decide, ⟨1, y, _, b1, b2, b5, h, n⟩, ⟨fo_nr _, y1, ?_, g4, g5⟩, ⟨rfl, rfl, rfl, rfl, rfl, rfl, rfl, rfl, rfl, rfl, rfl, fo_tv⟩, Ent.pick [0, 1, 2, 3, 4, 5, 6] rfl rfl, (by decide : 0 < 1)⟩⟩⟩⟩⟩
      · cases ha
        exact Seg.rest (j := 2008) (by simp) (Seg.cells (λj u hj => by rw [fo_za]; exact hj))
      · dsimp only at y2 ⊢
        omega
  · have hi : i = 1 := by omega
    subst hi
    refine ⟨fwI_ok, rfl, r, rfl, rfl, ⟨g2.src, by omega⟩, row_srcd 3 (by simp) rfl g2, λ_ _ => ⟨⟨rfl, rfl⟩, ⟨rfl, rfl⟩, ⟨rfl, rfl⟩, ⟨rfl, rfl⟩, ⟨rfl, rfl⟩, ⟨rfl, rfl⟩, ⟨rfl, rfl⟩, wqI_ok, rfl, (), rfl, rfl, fo_tv, ⟨(fr _ _ (by simp) rfl).gl, (fr _ _ (by simp) rfl).tx⟩, λ_ _ => ?_⟩⟩
    repeat (first | refine ⟨⟨rfl, rfl⟩, ?_⟩ | refine ⟨rfl, ?_⟩)
    exact ⟨(), fo_tv, rfl, Ent.pick [0] rfl rfl⟩
theorem req_ok : fo_k 14 reqI := fo 172 Tryz.func14 (λ_ _ => [(0, 0, .n 1000), (0, 1, .n 1001), (1, 2, .q [.aq 1000]), (3, 2, .q [.aq 1000]), (3, 5, .q [.aq 1000]), (3, 7, .n 1002), (3, 8, .w (at5 1002)), (4, 2, .q [.aq 1000]), (5, 1, .q [.aq 1002]), (5, 4, .q [.aq 1000]), (5, 5, .c it81 [] []), (5, 9, .w [.aq 1002]), (6, 2, .q [.aq 1000]), (6, 4, .n 1003), (7, 0, .c nwaC [] [1004]), (8, 2, .q [.aq 1000]), (8, 3, .c wdI [] []), (9, 2, .c pzI [4] [4]), (9, 6, .n 1005), (9, 7, .w (at4u 1005)), (10, 7, .q [.aq 1005]), (10, 13, .q [.aq 1005]), (10, 15, .c kiI [4] [4]), (12, 2, .q [.aq 1005]), (12, 3, .c keI [4] [4, 1006]), (14, 0, .qo (ixQ 1)), (14, 1, .q [.ex 6 (.is (.string ⟨#[0, 97]⟩))]), (15, 2, .q [.aq 5]), (15, 4, .c owI [4] [4]), (15, 8, .n 2007), (15, 9, .w (at4u 2007)), (16, 1, .c nrI [] []), (17, 3, .q (at4u 2007)), (17, 4, .c bvnC [] []), (17, 6, .n 2008), (17, 7, .o (apC 36 2 32) [3] [3]), (19, 1, .c fwI [] []), (23, 2, .w [.aq 2]), (23, 4, .w [.aq 2]), (31, 0, .q (at5 2)), (31, 1, .c wqI [] []), (34, 0, .q (at5 2)), (34, 1, .w (at5 1))]) [(10, 8, OH.q [LH.aq (1005 : Nat)]), (10, 14, OH.q [LH.aq (1005 : Nat)])] rquInv rquCut fo_o (at5 1) req_vc
end
section
open Go
set_option maxHeartbeats 1000000
end
end Go.Proofs.YtjdabjmjldiodaaGreatDoor
