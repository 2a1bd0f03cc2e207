/- A part of the proof that pennantlaw23.BasicBack answers true at every input. -/
import Derived.Test.YtjdabjmjldiodaaGreatDoorPBap
set_option linter.all false
namespace Go.Proofs.YtjdabjmjldiodaaGreatDoor
set_option maxRecDepth 100000
open Go.Value (int slice string bool pointer agg tuple func float iface nilIface)
open Go.IntKind (i64 u8 u64 i32 u32 u16 i8 i16)
open Go.FloatKind (f64)
open Go.Ending (returned panicked)
section
open Go Go.ChangeShapes Go.WideShapes Go.ChangeAt Go.RowKit
def laidL : List (String × DataW Unit) := [("math/bits.deBruijn32tab", Rows.laid_math_bits_deBruijn32tab), ("math/bits.deBruijn64tab", Rows.laid_math_bits_deBruijn64tab), ("internal/strconv.float32info", Rows.laid_internal_strconv_float32info), ("internal/strconv.float64info", Rows.laid_internal_strconv_float64info), ("internal/strconv.optimize", Rows.laid_internal_strconv_optimize), ("internal/strconv.powtab", Rows.laid_internal_strconv_powtab), ("internal/strconv.float64pow10", Rows.laid_internal_strconv_float64pow10), ("internal/strconv.float32pow10", Rows.laid_internal_strconv_float32pow10), ("internal/strconv.uint64pow10", Rows.laid_internal_strconv_uint64pow10), ("unicode/utf8.acceptRanges", Rows.laid_unicode_utf8_acceptRanges), ("strconv.ErrRange", Rows.laid_strconv_ErrRange), ("strconv.ErrSyntax", Rows.laid_strconv_ErrSyntax), ("internal/strconv.leftcheats", Rows.laid_internal_strconv_leftcheats), ("internal/strconv.pow10Tab", Rows.laid_internal_strconv_pow10Tab), ("unicode/utf8.first", Rows.laid_unicode_utf8_first)]
theorem laidL_eq : (Rows.basicBackRow.laid.filter λx => x.2.handleName?.isNone) = laidL := by kernel_rfl
theorem hndL_eq : (Rows.basicBackRow.laid.filter λx => x.2.handleName?.isSome) = [("errors.errorType", Rows.laid_errors_errorType)] := by kernel_rfl
noncomputable def gTy (g : Nat) : TypeId := ((Tryz.prog.globals[g]?).map (·.type)).getD 0
theorem gTy_ok {g : Nat} (h : ((Tryz.prog.globals[g]?).map (·.type)).isSome = true) : (Tryz.prog.globals[g]?).map (·.type) = some (gTy g) := by
  unfold gTy
  cases e : (Tryz.prog.globals[g]?).map (·.type) with
  | none => rw [e] at h; cases h
  | some t => rfl
set_option maxRecDepth 100000
theorem f_first : flD Tryz.prog 2 (gTy 0) Rows.laid_unicode_utf8_first = some ((List.range 256).map λc => int .u8 (Lib.firstT c)) := by kernel_rfl
theorem f_acc : flD Tryz.prog 3 (gTy 1) Rows.laid_unicode_utf8_acceptRanges = some ((List.range 32).map λi => int .u8 (bif i % 2 == 0 then Lib.accLo (i / 2) else Lib.accHi (i / 2))) := by kernel_rfl
theorem f_info : flD Tryz.prog 2 (gTy 14) Rows.laid_internal_strconv_float64info = some [.int .u64 52, .int .u64 11, .int .i64 (-1023)] := by kernel_rfl
theorem f_opt : flD Tryz.prog 2 (gTy 6) Rows.laid_internal_strconv_optimize = some [.bool true] := by kernel_rfl
theorem f_u64 : flD Tryz.prog 2 (gTy 4) Rows.laid_internal_strconv_uint64pow10 = some p10C := by kernel_rfl
theorem f_pow : (flD Tryz.prog 3 (gTy 11) Rows.laid_internal_strconv_pow10Tab).isSome = true := by kernel_rfl
noncomputable def powL : List Value := (flD Tryz.prog 3 (gTy 11) Rows.laid_internal_strconv_pow10Tab).getD []
theorem f_pow2 : flD Tryz.prog 3 (gTy 11) Rows.laid_internal_strconv_pow10Tab = some powL := by
  unfold powL
  cases h : flD Tryz.prog 3 (gTy 11) Rows.laid_internal_strconv_pow10Tab with
  | none => have := f_pow; rw [h] at this; cases this
  | some l => rfl
theorem range_get {α : Type} {f : Nat → α} {n i : Nat} (h : i < n) : ((List.range n).map f)[i]? = some (f i) := by
  rw [fo_gm, List.getElem?_range h] <;> rfl
section
variable {W : World} (h : laidMet Tryz.prog laidL W)
include h
theorem v_utf : Utf (oldA W) := by
  have h1 := laid_var h 14  (n := "unicode/utf8.first") (d := Rows.laid_unicode_utf8_first) rfl
  have h2 := laid_var h 9 (n := "unicode/utf8.acceptRanges") (d := Rows.laid_unicode_utf8_acceptRanges) rfl
  refine ⟨λc hc => h1.look (by kernel_rfl) (gTy_ok (by kernel_rfl)) 2 f_first c (range_get hc), λi hi => h2.look (by kernel_rfl) (gTy_ok (by kernel_rfl)) 3 f_acc (2 * i) ?_, λi hi => h2.look (by kernel_rfl) (gTy_ok (by kernel_rfl)) 3 f_acc (2 * i + 1) ?_⟩
  · rw [range_get (by omega), show (2 * i % 2 == 0) = true by rw [beq_iff_eq]; omega, show 2 * i / 2 = i by omega] <;> rfl
  · rw [range_get (by omega), show ((2 * i + 1) % 2 == 0) = false by rw [fo_bf]; omega, show (2 * i + 1) / 2 = i by omega] <;> rfl
theorem v_p10 : Tab (oldA W) 4 p10C := by
  have h1 := laid_var h 8 (n := "internal/strconv.uint64pow10") (d := Rows.laid_internal_strconv_uint64pow10) rfl
  obtain ⟨t, fr, e⟩ := h1.flat (by kernel_rfl) (gTy_ok (by kernel_rfl)) 2 f_u64
  exact ⟨λI g o hc hA => ⟨t, fr, hc _ _ ((show Imm.le (hp W) I from hA) _ _ e)⟩⟩
theorem v_info : Look (oldA W) ⟨14, 0, none⟩ (.int .u64 52) ∧ Look (oldA W) ⟨14, 1, none⟩ (.int .u64 11) ∧ Look (oldA W) ⟨14, 2, none⟩ (.int .i64 (-1023)) := by
  have h1 := laid_var h 3 (n := "internal/strconv.float64info") (d := Rows.laid_internal_strconv_float64info) rfl
  exact ⟨h1.look (by kernel_rfl) (gTy_ok (by kernel_rfl)) 2 f_info 0 rfl, h1.look (by kernel_rfl) (gTy_ok (by kernel_rfl)) 2 f_info 1 rfl, h1.look (by kernel_rfl) (gTy_ok (by kernel_rfl)) 2 f_info 2 rfl⟩
theorem v_opt : Look (oldA W) ⟨6, 0, none⟩ (.bool true) := by
  have h1 := laid_var h 4 (n := "internal/strconv.optimize") (d := Rows.laid_internal_strconv_optimize) rfl
  exact h1.look (by kernel_rfl) (gTy_ok (by kernel_rfl)) 2 f_opt 0 rfl
theorem v_pow2 : Look (oldA W) ⟨11, 728, none⟩ (.int .u64 10240000000000000000) ∧ Look (oldA W) ⟨11, 729, none⟩ (.int .u64 0) := by
  have h1 := laid_var h 13 (n := "internal/strconv.pow10Tab") (d := Rows.laid_internal_strconv_pow10Tab) rfl
  exact ⟨h1.look (by kernel_rfl) (gTy_ok (by kernel_rfl)) 3 f_pow2 728 (by kernel_rfl), h1.look (by kernel_rfl) (gTy_ok (by kernel_rfl)) 3 f_pow2 729 (by kernel_rfl)⟩
theorem v_u15 : Look (oldA W) ⟨4, 15, none⟩ (.int .u64 1000000000000000) := by
  have h1 := laid_var h 8 (n := "internal/strconv.uint64pow10") (d := Rows.laid_internal_strconv_uint64pow10) rfl
  exact h1.look (by kernel_rfl) (gTy_ok (by kernel_rfl)) 2 f_u64 15 rfl
theorem v_gN : gN.ok (oldA W) := by
  intro b i v e
  unfold gN at e
  cases h1 : Nat.beq b 6 && Nat.beq i 0 with
  | true =>
    rw [h1, fo_ct] at e
    cases e
    obtain ⟨e1, e2⟩ := Bool.and_eq_true_iff.1 h1
    rw [Nat.eq_of_beq_eq_true e1, Nat.eq_of_beq_eq_true e2]
    exact v_opt h
  | false =>
    rw [h1, fo_cf] at e
    cases h2 : Nat.beq b 14 && Nat.beq i 0 with
    | true =>
      rw [h2, fo_ct] at e
      cases e
      obtain ⟨e1, e2⟩ := Bool.and_eq_true_iff.1 h2
      rw [Nat.eq_of_beq_eq_true e1, Nat.eq_of_beq_eq_true e2]
      exact (v_info h).1
    | false => rw [h2, fo_cf] at e; cases e
theorem v_gT : gT.ok (oldA W) := by
  intro b i v e
  unfold gT at e
  cases h1 : Nat.beq b 4 && Nat.beq i 15 with
  | true =>
    rw [h1, fo_ct] at e
    cases e
    obtain ⟨e1, e2⟩ := Bool.and_eq_true_iff.1 h1
    rw [Nat.eq_of_beq_eq_true e1, Nat.eq_of_beq_eq_true e2]
    exact v_u15 h
  | false =>
    rw [h1, fo_cf] at e
    unfold gP at e
    cases h2 : Nat.beq b 11 with
    | false => rw [h2, fo_cf] at e; cases e
    | true =>
      rw [h2, fo_ct] at e
      rw [Nat.eq_of_beq_eq_true h2]
      cases h3 : Nat.beq i 728 with
      | true =>
        rw [h3, fo_ct] at e
        cases e
        rw [Nat.eq_of_beq_eq_true h3]
        exact (v_pow2 h).1
      | false =>
        rw [h3, fo_cf] at e
        cases h4 : Nat.beq i 729 with
        | false => rw [h4, fo_cf] at e; cases e
        | true =>
          rw [h4, fo_ct] at e
          cases e
          rw [Nat.eq_of_beq_eq_true h4]
          exact (v_pow2 h).2
end
section
variable {W : World} (h : W.ShapedOpen Tryz.prog)
include h
theorem s_int {g : Nat} {t : TypeId} {k : IntKind} {zero : Array Value} (hg : g < Tryz.prog.globals.size) (h0 : ((begin Tryz.prog (λ_ _ => 0) default).world.heap[g]?).bind Obj.row? = some (zero, t)) (hz : zero.size = 1)
    (hb : Tryz.prog.buildable t = true) (hc : Tryz.prog.cellTypes Tryz.prog.depth t = some [t]) (hu : Tryz.prog.underlying t = some (.int k)) : ∃ m, Look (oldA W) ⟨g, 0, none⟩ (.int k m) := by
  obtain ⟨cs, hh, hs, hr⟩ := h.1 g zero t hg h0
  obtain ⟨ts, hts, _, hall⟩ := hr hb
  rw [hc] at hts
  cases hts
  have h1 : 0 < cs.size := by omega
  obtain ⟨u, hu', hok⟩ := hall 0 cs[0] (by simp [h1])
  have : u = t := by simpa using hu'.symm
  subst this
  have hcell : W.cell? ⟨g, 0, none⟩ = some cs[0] := by simp [World.cell?, hh, h1]
  unfold Cell.ok at hok
  rw [hu] at hok
  suffices hx : ∃ m, cs[0] = .int k m by
    obtain ⟨m, hm⟩ := hx
    exact ⟨m, look_old (by rw [hcell, hm])⟩
  cases hv : cs[0] <;> rw [hv] at hok <;> simp at hok
  rename_i k' m
  exact ⟨m, by first | rw [hok] | rw [hok.1]⟩
end
theorem rqG_ok {W : World} (h : laidMet Tryz.prog laidL W) (hs : W.ShapedOpen Tryz.prog) : RqG (oldA W) := by
  have mx : ∃ m, Look (oldA W) ⟨3, 0, none⟩ (.int .i64 m) := s_int hs (t := 3) (zero := #[.int .i64 0]) (fo_od1 (by kernel_rfl)) (by kernel_rfl) rfl (by kernel_rfl) (by kernel_rfl) (by kernel_rfl)
  exact ⟨⟨v_utf h, mx⟩, v_utf h, v_gN h, v_gT h, v_p10 h, mx⟩
theorem sown : ownKnob Tryz.prog.godebug = none := by kernel_rfl
theorem slaid : laidOutB Tryz.prog = true := by kernel_rfl
noncomputable def fsOf (t : TypeId) : Array Field := match Tryz.prog.underlying t with | some (.struct fs) => fs | _ => #[]
theorem list4 {ys : List Value} (h : ys.length = 4) : ∃ a0 a1 a2 a3, ys = [a0, a1, a2, a3] :=
  match ys, h with
  | [a0, a1, a2, a3], _ => ⟨a0, a1, a2, a3, rfl⟩
section
variable {H : Type} {enc : TypeId × Value → H} {W : World}
theorem wE_at {P : Program} {q : Nat → Bool} : ∀ {ts : List TypeId} {ds : List (DataW H)} (i : Nat) {t : TypeId} {d : DataW H}, ts[i]? = some t → ds[i]? = some d → (DataW.weightsEach P ts ds).all q = true → (DataW.weights P t d).all q = true
  | [], _, _, _, _, h, _, _ => by simp at h
  | _ :: _, [], _, _, _, _, h, _ => by simp at h
  | t :: ts, d :: ds, 0, _, _, h1, h2, h => by
    cases h1
    cases h2
    rw [DataW.weightsEach, List.all_append, fo_bae] at h
    exact h.1
  | t :: ts, d :: ds, i + 1, _, _, h1, h2, h => by
    rw [DataW.weightsEach, List.all_append, fo_bae] at h
    exact wE_at i (by simpa using h1) (by simpa using h2) h.2
theorem str_fld {t : TypeId} {fs : Array Field} {n : Nat} {ys : List Value} {y : DataW H × List MemPlace} (ht : Tryz.prog.underlying t = some (.struct fs)) (h : DataW.trod enc Tryz.prog W 0 (λ_ => true) true n t ys = some y) (hB : (DataW.weights Tryz.prog t y.1).all (· ≤ reachBytes) = true) (i : Nat) (f : Field)
    (hf : fs[i]? = some f) (ho : f.offset = i) (hT : f.type = 9) (hj : i < ys.length) : ∃ s : ByteArray, ys[i] = .string s ∧ s.size ≤ 140737488355328 := by
  obtain ⟨xs, m, rfl, rfl, hl, hx, hall⟩ := DataW.trod_struct ht h
  have h1 := hall i f hf
  have hi : i < xs.length := by rw [hx]; exact (Array.getElem?_eq_some_iff.1 hf).1
  rw [fo_ge hi, ho, hT, show Tryz.prog.cellsOf 9 = 1 by kernel_rfl] at h1
  have e : (ys.drop i).take 1 = [ys[i]] := by rw [List.drop_eq_getElem_cons hj] <;> rfl
  rw [e] at h1
  obtain ⟨s, h2, h3, -⟩ := DataW.trod_string (by kernel_rfl) h1
  refine ⟨s, by simpa using h2, ?_⟩
  unfold DataW.weights at hB
  rw [ht] at hB
  have h4 := wE_at (P := Tryz.prog) (t := f.type) (d := (xs[i]).1) i (by rw [fo_gm, Array.getElem?_toList, hf] <;> rfl) (by rw [fo_gm, fo_ge hi] <;> rfl) hB
  rw [h3] at h4
  unfold DataW.weights at h4
  have h5 : s.data.toList.length ≤ reachBytes := by simpa using h4
  have h6 : s.data.toList.length = s.size := by simp
  have h7 : reachBytes ≤ 140737488355328 := by decide
  omega
theorem wA_mem {P : Program} {q : Nat → Bool} {e : TypeId} {d : DataW H} : ∀ {ds : List (DataW H)}, d ∈ ds → (DataW.weightsAll P e ds).all q = true → (DataW.weights P e d).all q = true
  | [], h, _ => by cases h
  | x :: r, h, hq => by
    rw [DataW.weightsAll, List.all_append, fo_bae] at hq
    rcases List.mem_cons.1 h with rfl | h
    · exact hq.1
    · exact wA_mem h hq.2
theorem open_elsW {α : Type} {k : Nat} {e : α → List Value} {ok : α → Prop} {P : Program} {base : Nat} {spare : Nat → Bool} {held : Bool} (he : ∀ x, (e x).length = k) (hk : 0 < k) {t te : TypeId} {fuel : Nat} {v : Value} {x : DataW H × List MemPlace}
    (ht : P.underlying t = some (.slice te)) (hc : P.cellsOf te = k)
    (hel : ∀ n ys y, ys.length = k → DataW.trod enc P W base spare held n te ys = some y → (DataW.weights P te y.1).all (· ≤ reachBytes) = true → ∃ x : α, ok x ∧ ys = e x)
    (h : DataW.trod enc P W base spare held fuel t [v] = some x) (hB : (DataW.weights P t x.1).all (· ≤ reachBytes) = true) :
    ∃ (a0 : Option Addr) (n0 c0 : Nat) (xs : List α), v = .slice a0 n0 c0 ∧ IsSrc k (xs.flatMap e) a0 n0 ∧ Srcd (oldA W) a0 (xs.flatMap e) ∧ ∀ x ∈ xs, ok x := by
  rcases DataW.trod_slice ht h with ⟨h0, -⟩ | ⟨a, n0, c0, elems, rest, n, _, h0, rfl, hb, hl, hm, hlen, hel', -, -⟩
  · simp only [List.cons.injEq, and_true] at h0
    subst h0
    exact ⟨none, 0, 0, [], rfl, .nil rfl, λad e => (by cases e), by simp⟩
  · simp only [List.cons.injEq, and_true] at h0
    subst h0
    have hB' : (DataW.weightsAll P te (elems.map (·.1))).all (· ≤ reachBytes) = true := by
      unfold DataW.weights at hB
      rw [ht] at hB
      dsimp only at hB
      rw [List.all_cons, fo_bae, List.all_append, fo_bae] at hB
      exact hB.2.1
    have each : ∀ i, i < n0 → ∃ x : α, ok x ∧ ∀ j u, (e x)[j]? = some u → W.cell? (a.add (i * k + j)) = some u := by
      intro i hi
      have h1 := hel' i hi
      rw [fo_ge (by omega), Option.bind_eq_some_iff] at h1
      obtain ⟨ys, hys, hy⟩ := h1
      rw [hc] at hys
      obtain ⟨_, hyl, hcell⟩ := World.cells?_some hys
      obtain ⟨z, hz, rfl⟩ := hel _ _ _ hyl hy (wA_mem (List.mem_map.2 ⟨_, List.getElem_mem _, rfl⟩) hB')
      refine ⟨z, hz, λj u hj => ?_⟩
      have hjk : j < k := by rw [← he z]; exact (fo_gs.1 hj).1
      have := hcell j hjk
      rw [hj] at this
      rw [← this]
      congr 1
      unfold Addr.add
      by_cases h0 : i * k = 0
      · by_cases hj0 : j = 0
        · simp [h0, hj0]
        · simp [h0, hj0]
      · by_cases hj0 : j = 0
        · simp [h0, hj0]
        · have : ¬ (i * k + j = 0) := by omega
          simp [h0, hj0, this, Nat.add_assoc]
    have build : ∀ m, m ≤ n0 → ∃ xs : List α, xs.length = m ∧ (∀ x ∈ xs, ok x) ∧ ∀ i x, xs[i]? = some x → ∀ j u, (e x)[j]? = some u → W.cell? (a.add (i * k + j)) = some u := by
      intro m
      induction m with
      | zero => intro _; exact ⟨[], rfl, by simp, by simp⟩
      | succ m ih =>
        intro hm'
        obtain ⟨xs, h1, h2, h3⟩ := ih (by omega)
        obtain ⟨z, hz, hz'⟩ := each m (by omega)
        refine ⟨xs ++ [z], by simp [h1], ?_, ?_⟩
        · intro y hy
          rcases List.mem_append.1 hy with hy | hy
          · exact h2 y hy
          · rw [List.mem_singleton] at hy; subst hy; exact hz
        · intro i y hi
          by_cases hlt : i < xs.length
          · rw [fo_gl hlt] at hi
            exact h3 i y hi
          · have hil : i < (xs ++ [z]).length := (fo_gs.1 hi).1
            have : i = m := by simp [h1] at hil; omega
            subst this
            rw [fo_gr2 (by omega)] at hi
            simp [h1] at hi
            subst hi
            exact hz'
    obtain ⟨xs, h1, h2, h3⟩ := build n0 (fo_nr _)
    have hcells : ∀ j u, (xs.flatMap e)[j]? = some u → W.cell? (a.add j) = some u := by
      intro j u hj
      obtain ⟨z, hz, hz'⟩ := flat_get he hk xs j u hj
      have := h3 _ _ hz _ _ hz'
      rwa [Nat.div_add_mod' j k] at this
    refine ⟨some a, n0, c0, xs, rfl, ?_, λad e j u hj => by cases e; exact look_old (hcells j u hj), h2⟩
    have hfl := flat_length he xs
    rw [h1] at hfl
    by_cases hn : n0 = 0
    · subst hn
      exact .zero a (List.eq_nil_of_length_eq_zero (by rw [hfl]; simp))
    · have hpos : 0 < n0 * k := Nat.mul_pos (by omega) hk
      have hs : a.spot = none := by
        have h0 := hcells 0 _ (fo_ge (by omega))
        cases hs : a.spot with
        | none => rfl
        | some s =>
          exfalso
          have eNul : a.add 0 = a := rfl
          rw [eNul, ← cellOf_hp] at h0
          unfold cellOf at h0
          rw [hs] at h0
          split at h0 <;> simp at h0
      obtain ⟨b, o, s⟩ := a
      dsimp only at hs
      subst hs
      exact .blk b o n0 hfl
theorem fld1 {t : TypeId} {fs : Array Field} {n : Nat} {ys : List Value} {y : DataW H × List MemPlace} (ht : Tryz.prog.underlying t = some (.struct fs)) (h : DataW.trod enc Tryz.prog W 0 (λ_ => true) true n t ys = some y) (hB : (DataW.weights Tryz.prog t y.1).all (· ≤ reachBytes) = true) (i : Nat) (f : Field)
    (hf : fs[i]? = some f) (ho : f.offset = i) (hT : Tryz.prog.cellsOf f.type = 1) (hj : i < ys.length) : ∃ m z, DataW.trod enc Tryz.prog W 0 (λ_ => true) true m f.type [ys[i]] = some z ∧ (DataW.weights Tryz.prog f.type z.1).all (· ≤ reachBytes) = true := by
  obtain ⟨xs, m, rfl, rfl, hl, hx, hall⟩ := DataW.trod_struct ht h
  have h1 := hall i f hf
  have hi : i < xs.length := by rw [hx]; exact (Array.getElem?_eq_some_iff.1 hf).1
  rw [fo_ge hi, ho, hT] at h1
  have e : (ys.drop i).take 1 = [ys[i]] := by rw [List.drop_eq_getElem_cons hj] <;> rfl
  rw [e] at h1
  refine ⟨m, _, h1, ?_⟩
  unfold DataW.weights at hB
  rw [ht] at hB
  exact wE_at (P := Tryz.prog) (t := f.type) (d := (xs[i]).1) i (by rw [fo_gm, Array.getElem?_toList, hf] <;> rfl) (by rw [fo_gm, fo_ge hi] <;> rfl) hB
def fldC (f : Fld) : List Value := [.string f.1, .string f.2]
theorem fld_arg {n : Nat} {ys : List Value} {y : DataW H × List MemPlace} (h5 : ys.length = 2) (h : DataW.trod enc Tryz.prog W 0 (λ_ => true) true n 36 ys = some y) (hB : (DataW.weights Tryz.prog 36 y.1).all (· ≤ reachBytes) = true) : ∃ f : Fld, (f.1.size ≤ 140737488355328 ∧ f.2.size ≤ 140737488355328) ∧ ys = fldC f := by
  have ht : Tryz.prog.underlying 36 = some (.struct (fsOf 36)) := by kernel_rfl
  match ys, h5 with
  | [a0, a1], _ =>
    obtain ⟨s0, eNul, z0⟩ := str_fld ht h hB 0 _ (by kernel_rfl : (fsOf 36)[0]? = some ((fsOf 36)[0]'(fo_od1 (by kernel_rfl)))) (by kernel_rfl) (by kernel_rfl) (show 0 < 2 by decide)
    obtain ⟨s1, e1, z1⟩ := str_fld ht h hB 1 _ (by kernel_rfl : (fsOf 36)[1]? = some ((fsOf 36)[1]'(fo_od1 (by kernel_rfl)))) (by kernel_rfl) (by kernel_rfl) (show 1 < 2 by decide)
    have eNul : a0 = .string s0 := eNul
    have e1 : a1 = .string s1 := e1
    subst eNul e1
    exact ⟨(s0, s1), ⟨z0, z1⟩, rfl⟩
theorem sent_arg {base : Nat} {v : Value} {d : DataW H} {p : List MemPlace} (hv : Value.okWide Tryz.prog W .any base 24 v) (h : ∃ fuel, DataW.trod enc Tryz.prog W 0 (λ_ => true) true fuel 24 v.cells.toList = some (d, p)) (hB : (DataW.weights Tryz.prog 24 d).all (· ≤ reachBytes) = true) :
    ∃ z : LbbX, v = .agg #[.string z.x.n, .slice z.x.a z.x.k z.x.c, .string z.x.b, .bool z.o] ∧ LbOk z.x ∧ Srcd (oldA W) z.x.a (fCs z.x.fs) := by
  obtain ⟨cs, rfl, hcs⟩ := okWide_struct (P := Tryz.prog) (fs := fsOf 24) (by kernel_rfl) hv
  obtain ⟨fuel, h⟩ := h
  have h4 : cs.toList.length = 4 := by
    rw [Array.length_toList, hcs]; exact (by kernel_rfl : Tryz.prog.cellsOf 24 = 4)
  obtain ⟨a0, a1, a2, a3, hl⟩ := list4 h4
  obtain rfl : cs = ⟨[a0, a1, a2, a3]⟩ := Array.ext' hl
  have ht : Tryz.prog.underlying 24 = some (.struct (fsOf 24)) := by kernel_rfl
  obtain ⟨s0, eNul, z0⟩ := str_fld ht h hB 0 _ (by kernel_rfl : (fsOf 24)[0]? = some ((fsOf 24)[0]'(fo_od1 (by kernel_rfl)))) (by kernel_rfl) (by kernel_rfl) (show 0 < 4 by decide)
  obtain ⟨s2, e2, z2⟩ := str_fld ht h hB 2 _ (by kernel_rfl : (fsOf 24)[2]? = some ((fsOf 24)[2]'(fo_od1 (by kernel_rfl)))) (by kernel_rfl) (by kernel_rfl) (show 2 < 4 by decide)
  obtain ⟨m1, y1, t1, b1⟩ := fld1 ht h hB 1 _ (by kernel_rfl : (fsOf 24)[1]? = some ((fsOf 24)[1]'(fo_od1 (by kernel_rfl)))) (by kernel_rfl) (by kernel_rfl) (show 1 < 4 by decide)
  obtain ⟨m3, y3, t3, b3⟩ := fld1 ht h hB 3 _ (by kernel_rfl : (fsOf 24)[3]? = some ((fsOf 24)[3]'(fo_od1 (by kernel_rfl)))) (by kernel_rfl) (by kernel_rfl) (show 3 < 4 by decide)
  have t1 : DataW.trod enc Tryz.prog W 0 (λ_ => true) true m1 22 [a1] = some y1 := t1
  have b1 : (DataW.weights Tryz.prog 22 y1.1).all (· ≤ reachBytes) = true := b1
  obtain ⟨a, k, c, xs, e1, i1, r1, o1⟩ := open_elsW (e := fldC) (ok := λf : Fld => f.1.size ≤ 140737488355328 ∧ f.2.size ≤ 140737488355328) (λ_ => rfl) (by decide) (te := 36) (by kernel_rfl) (by kernel_rfl) (λn ys y h1 h2 h3 => fld_arg h1 h2 h3) t1 b1
  have t3 : DataW.trod enc Tryz.prog W 0 (λ_ => true) true m3 4 [a3] = some y3 := t3
  obtain ⟨o, e3, -⟩ := DataW.trod_bool (by kernel_rfl) t3
  have eNul : a0 = .string s0 := eNul
  have e2 : a2 = .string s2 := e2
  have e3 : a3 = .bool o := by simpa using e3
  subst eNul e1 e2 e3
  exact ⟨⟨⟨s0, xs, a, k, c, s2⟩, o⟩, rfl, ⟨i1, o1⟩, r1⟩
end
end
end Go.Proofs.YtjdabjmjldiodaaGreatDoor
