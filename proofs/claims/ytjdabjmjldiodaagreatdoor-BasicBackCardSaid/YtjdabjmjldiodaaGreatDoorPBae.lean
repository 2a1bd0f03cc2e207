/- A part of the proof that pennantlaw23.BasicBack answers true at every input. -/
import Derived.Test.YtjdabjmjldiodaaGreatDoorPBad
set_option linter.all false
namespace Go.Proofs.YtjdabjmjldiodaaGreatDoor
set_option maxRecDepth 100000
open Go.Value (int slice string bool pointer agg tuple func float iface nilIface)
open Go.IntKind (i64 u8 u64 i32 u32 u16 i8 i16)
open Go.FloatKind (f64)
open Go.Ending (returned panicked)
end Go.Proofs.YtjdabjmjldiodaaGreatDoor
namespace Go.Proofs
section
open Go.Shelf
def Tryz.lays156_ren : Go.Shelf.Ren := ⟨λ| 156 => 89 | 165 => 137 | 166 => 113 | 169 => 29 | 240 => 167 | 241 => 185 | 276 => 206 | 277 => 229 | n => n, λ| 31 => 64 | 9 => 9 | 3 => 3 | 4 => 4 | 0 => 0 | 20 => 20 | 72 => 81 | 76 => 174 | 70 => 78 | 37 => 79 | 75 => 173 | 127 => 130 | 164 => 234 | 5 => 5 | 80 => 86 | n => n, λ| n => n⟩
theorem Tryz.lays156 : Go.Proofs.Lays.n156 Tryz.prog Tryz.lays156_ren := {
  mixed := by kernel_rfl
  f156 := Tryz.func89.trans (congrArg some (by kernel_rfl))
  f165 := Tryz.func137.trans (congrArg some (by kernel_rfl))
  f166 := Tryz.func113.trans (congrArg some (by kernel_rfl))
  f169 := Tryz.func29.trans (congrArg some (by kernel_rfl))
  f240 := Tryz.func167.trans (congrArg some (by kernel_rfl))
  f241 := Tryz.func185.trans (congrArg some (by kernel_rfl))
  f276 := Tryz.func206.trans (congrArg some (by kernel_rfl))
  f277 := Tryz.func229.trans (congrArg some (by kernel_rfl))
  t0 := Tryz.underlying0
  a0 := Tryz.isAgg0
  z0 := Tryz.sizeOf0
  v0 := Tryz.zeroValue0
  t3 := Tryz.underlying3
  a3 := Tryz.isAgg3
  z3 := Tryz.sizeOf3
  v3 := Tryz.zeroValue3
  t4 := Tryz.underlying4
  a4 := Tryz.isAgg4
  z4 := Tryz.sizeOf4
  v4 := Tryz.zeroValue4
  t9 := Tryz.underlying9
  a9 := Tryz.isAgg9
  z9 := Tryz.sizeOf9
  v9 := Tryz.zeroValue9
  t20 := Tryz.underlying20
  a20 := Tryz.isAgg20
  z20 := Tryz.sizeOf20
  v20 := Tryz.zeroValue20
  t31 := Tryz.underlying64
  a31 := Tryz.isAgg64
  z31 := Tryz.sizeOf64
  v31 := Tryz.zeroValue64
  t37 := Tryz.underlying79
  a37 := Tryz.isAgg79
  z37 := Tryz.sizeOf79
  v37 := Tryz.zeroValue79
  t70 := Tryz.underlying78
  a70 := Tryz.isAgg78
  z70 := Tryz.sizeOf78
  v70 := Tryz.zeroValue78
  t72 := Tryz.underlying81
  a72 := Tryz.isAgg81
  z72 := Tryz.sizeOf81
  v72 := Tryz.zeroValue81
  t75 := Tryz.underlying173
  a75 := Tryz.isAgg173
  z75 := Tryz.sizeOf173
  v75 := Tryz.zeroValue173
  t76 := Tryz.underlying174
  a76 := Tryz.isAgg174
  z76 := Tryz.sizeOf174
  v76 := Tryz.zeroValue174
  t127 := Tryz.underlying130
  a127 := Tryz.isAgg130
  z127 := Tryz.sizeOf130
  v127 := Tryz.zeroValue130
  t164 := Tryz.underlying234
  a164 := Tryz.isAgg234
  z164 := Tryz.sizeOf234
  v164 := Tryz.zeroValue234 }
theorem Tryz.Builder_Extra_156 : Builder.Extra Tryz.prog Tryz.lays156_ren := {
  sizeBuilder := by kernel_rfl
  liesBuilder := by kernel_rfl
  t5 := Tryz.underlying5
  a5 := Tryz.isAgg5
  z5 := Tryz.sizeOf5
  v5 := Tryz.zeroValue5
  infoByte := by kernel_rfl
  cellsByte := by kernel_rfl
  sizeByte := by kernel_rfl
  neB5 := by decide }
open Go.RowKit in
theorem Tryz.strings_Join_none (a : Option Addr) (c : Nat) (sep : ByteArray) (w : World) :
    Calls Tryz.prog 89 #[.slice a 0 c, .string sep] w λe w' => e = .returned (.string ⟨#[]⟩) ∧ w' = w := Any.strings_Join_none Tryz.lays156 Tryz.Builder_Extra_156 a c sep w
open Go.RowKit in
theorem Tryz.strings_Join (bk o c : Nat) (xs : List ByteArray) (sep : ByteArray) (w : World) (hcells : ∀ (j : Nat) x, xs[j]? = some x → w.cell? ⟨bk, o + j, none⟩ = some (.string x)) (hbk : bk < w.heap.size) (hN : xs.length ≤ 140737488355328) (hcap : xs.length ≤ c) (hlen : (Lib.join (xs.map (·.data.toList)) sep.data.toList).length ≤ 140737488355328) :
    Calls Tryz.prog 89 #[.slice (some ⟨bk, o, none⟩) xs.length c, .string sep] w λe w' => e = .returned (.string ⟨(Lib.join (xs.map (·.data.toList)) sep.data.toList).toArray⟩) ∧ Below w.heap.size w w' := Any.strings_Join Tryz.lays156 Tryz.Builder_Extra_156 bk o c xs sep w hcells hbk hN hcap hlen
def Tryz.lays101_ren : Go.Shelf.Ren := ⟨λ| 101 => 43 | 208 => 93 | 206 => 144 | n => n, λ| 9 => 9 | 4 => 4 | 3 => 3 | n => n, λ| n => n⟩
theorem Tryz.lays101 : Go.Proofs.Lays.n101 Tryz.prog Tryz.lays101_ren := {
  mixed := by kernel_rfl
  f101 := Tryz.func43.trans (congrArg some (by kernel_rfl))
  f206 := Tryz.func144.trans (congrArg some (by kernel_rfl))
  f208 := Tryz.func93.trans (congrArg some (by kernel_rfl))
  t3 := Tryz.underlying3
  a3 := Tryz.isAgg3
  z3 := Tryz.sizeOf3
  v3 := Tryz.zeroValue3
  t4 := Tryz.underlying4
  a4 := Tryz.isAgg4
  z4 := Tryz.sizeOf4
  v4 := Tryz.zeroValue4
  t9 := Tryz.underlying9
  a9 := Tryz.isAgg9
  z9 := Tryz.sizeOf9
  v9 := Tryz.zeroValue9 }
open Go.RowKit Go.Lib in
theorem Tryz.strings_TrimPrefix (s p : ByteArray) (w : World) :
    Calls Tryz.prog 43 #[.string s, .string p] w λe w' => e = .returned (.string ⟨(Lib.trimPrefix s.data.toList p.data.toList).toArray⟩) ∧ w' = w := Any.strings_TrimPrefix Tryz.lays101 s p w
def Tryz.lays146_ren : Go.Shelf.Ren := ⟨λ| 146 => 145 | 221 => 194 | 268 => 237 | 138 => 172 | 143 => 90 | 195 => 216 | 197 => 125 | 218 => 217 | 219 => 138 | 260 => 178 | 217 => 173 | 225 => 186 | 224 => 187 | 267 => 188 | 266 => 218 | 314 => 230 | n => n, λ| 9 => 9 | 31 => 64 | 3 => 3 | 4 => 4 | 0 => 0 | 105 => 184 | 21 => 21 | 5 => 5 | 46 => 135 | 119 => 153 | 139 => 156 | 138 => 155 | 146 => 255 | 51 => 191 | n => n, λ| 1 => 3 | 3 => 0 | 4 => 1 | n => n⟩
theorem Tryz.lays146 : Go.Proofs.Lays.n146 Tryz.prog Tryz.lays146_ren := {
  mixed := by kernel_rfl
  f138 := Tryz.func172.trans (congrArg some (by kernel_rfl))
  f143 := Tryz.func90.trans (congrArg some (by kernel_rfl))
  f146 := Tryz.func145.trans (congrArg some (by kernel_rfl))
  f195 := Tryz.func216.trans (congrArg some (by kernel_rfl))
  f197 := Tryz.func125.trans (congrArg some (by kernel_rfl))
  f217 := Tryz.func173.trans (congrArg some (by kernel_rfl))
  f218 := Tryz.func217.trans (congrArg some (by kernel_rfl))
  f219 := Tryz.func138.trans (congrArg some (by kernel_rfl))
  f221 := Tryz.func194.trans (congrArg some (by kernel_rfl))
  f224 := Tryz.func187.trans (congrArg some (by kernel_rfl))
  f225 := Tryz.func186.trans (congrArg some (by kernel_rfl))
  f260 := Tryz.func178.trans (congrArg some (by kernel_rfl))
  f266 := Tryz.func218.trans (congrArg some (by kernel_rfl))
  f267 := Tryz.func188.trans (congrArg some (by kernel_rfl))
  f268 := Tryz.func237.trans (congrArg some (by kernel_rfl))
  f314 := Tryz.func230.trans (congrArg some (by kernel_rfl))
  t0 := Tryz.underlying0
  a0 := Tryz.isAgg0
  z0 := Tryz.sizeOf0
  v0 := Tryz.zeroValue0
  t3 := Tryz.underlying3
  a3 := Tryz.isAgg3
  z3 := Tryz.sizeOf3
  v3 := Tryz.zeroValue3
  t4 := Tryz.underlying4
  a4 := Tryz.isAgg4
  z4 := Tryz.sizeOf4
  v4 := Tryz.zeroValue4
  t5 := Tryz.underlying5
  a5 := Tryz.isAgg5
  z5 := Tryz.sizeOf5
  v5 := Tryz.zeroValue5
  t9 := Tryz.underlying9
  a9 := Tryz.isAgg9
  z9 := Tryz.sizeOf9
  v9 := Tryz.zeroValue9
  t21 := Tryz.underlying21
  a21 := Tryz.isAgg21
  z21 := Tryz.sizeOf21
  v21 := Tryz.zeroValue21
  t31 := Tryz.underlying64
  a31 := Tryz.isAgg64
  z31 := Tryz.sizeOf64
  v31 := Tryz.zeroValue64
  t46 := Tryz.underlying135
  a46 := Tryz.isAgg135
  z46 := Tryz.sizeOf135
  v46 := Tryz.zeroValue135
  t51 := Tryz.underlying191
  a51 := Tryz.isAgg191
  z51 := Tryz.sizeOf191
  v51 := Tryz.zeroValue191
  t105 := Tryz.underlying184
  a105 := Tryz.isAgg184
  z105 := Tryz.sizeOf184
  v105 := Tryz.zeroValue184
  t119 := Tryz.underlying153
  a119 := Tryz.isAgg153
  z119 := Tryz.sizeOf153
  t138 := Tryz.underlying155
  a138 := Tryz.isAgg155
  z138 := Tryz.sizeOf155
  v138 := Tryz.zeroValue155
  t139 := Tryz.underlying156
  a139 := Tryz.isAgg156
  z139 := Tryz.sizeOf156
  v139 := Tryz.zeroValue156
  t146 := Tryz.underlying255
  a146 := Tryz.isAgg255
  z146 := Tryz.sizeOf255
  v146 := Tryz.zeroValue255
  g1 := by kernel_rfl
  g3 := by kernel_rfl
  g4 := by kernel_rfl }
open Go.RowKit Go.Lib in
theorem Tryz.strings_Split (s sep : ByteArray) (m : Int) (w : World) (hs : s.size < 4294967281) (hm : w.cell? ⟨3, 0, none⟩ = some (.int .i64 m)) (h1 : 1 ≤ sep.size) :
    Calls Tryz.prog 145 #[.string s, .string sep] w λe w' =>
      e = .returned (.slice (some ⟨w.heap.size, 0, none⟩) (Lib.countB s sep + 1) (Lib.countB s sep + 1)) ∧ w' = w.alloc (.cells ((Lib.splitB sep 0 (Lib.countB s sep) s).map Value.string).toArray 9) := Any.strings_Split Tryz.lays146 (by kernel_rfl) s sep m w hs hm h1
def Tryz.lays227_ren : Go.Shelf.Ren := ⟨λ| 227 => 149 | n => n, λ| 9 => 9 | 116 => 205 | 4 => 4 | 0 => 0 | 3 => 3 | 5 => 5 | n => n, λ| n => n⟩
theorem Tryz.lays227 : Go.Proofs.Lays.n227 Tryz.prog Tryz.lays227_ren := {
  mixed := by kernel_rfl
  f227 := Tryz.func149.trans (congrArg some (by kernel_rfl))
  t0 := Tryz.underlying0
  a0 := Tryz.isAgg0
  z0 := Tryz.sizeOf0
  v0 := Tryz.zeroValue0
  t3 := Tryz.underlying3
  a3 := Tryz.isAgg3
  z3 := Tryz.sizeOf3
  v3 := Tryz.zeroValue3
  t4 := Tryz.underlying4
  a4 := Tryz.isAgg4
  z4 := Tryz.sizeOf4
  v4 := Tryz.zeroValue4
  t5 := Tryz.underlying5
  a5 := Tryz.isAgg5
  z5 := Tryz.sizeOf5
  v5 := Tryz.zeroValue5
  t9 := Tryz.underlying9
  a9 := Tryz.isAgg9
  z9 := Tryz.sizeOf9
  v9 := Tryz.zeroValue9
  t116 := Tryz.underlying205
  a116 := Tryz.isAgg205
  z116 := Tryz.sizeOf205 }
open Go.RowKit Go.Lib in
theorem Tryz.strings_makeASCIISet (hv116 : ∀ w, (zeroValue 205).run Tryz.prog w = .ok (.agg (Array.replicate 256 (.bool false))) w) (chars : ByteArray) (w : World) (hs : chars.size < 4294967281) (hascii : ∀ (j : Nat) b, chars.data.toList[j]? = some b → b.toNat < 128) :
    Calls Tryz.prog 149 #[.string chars] w λe w' => e = .returned (.tuple #[.agg (Lib.setCells chars.data.toList), .bool true]) ∧ w' = w.alloc (.cells (Lib.setCells chars.data.toList) 205) := Any.strings_makeASCIISet Tryz.lays227 hv116 (by kernel_rfl) chars w hs hascii
end
end Go.Proofs
namespace Go.Proofs.YtjdabjmjldiodaaGreatDoor
set_option maxRecDepth 100000
open Go.Value (int slice string bool pointer agg tuple func float iface nilIface)
open Go.IntKind (i64 u8 u64 i32 u32 u16 i8 i16)
open Go.FloatKind (f64)
open Go.Ending (returned panicked)
section
open Go
set_option maxHeartbeats 1000000
theorem below_drewN (w : World) (k : Nat) : RowKit.Below w.heap.size w (w.drewN k) := ⟨rfl, rfl, rfl, fo_nr _, λ_ _ => rfl⟩
def strs (l : List ByteArray) : List Value := l.map string
theorem strs_length (l : List ByteArray) : (strs l).length = l.length := by unfold strs; simp
structure SpX where
  s : ByteArray
  p : ByteArray
abbrev splC : Con where
  X := SpX
  Y := Row
  args x := [.string x.s, .string x.p]
  pre _ := []
  cond x := x.s.size ≤ 1048576 ∧ 1 ≤ x.p.size
  rdc _ F := Gl F
  rel x y := IsRow 9 1 (strs (Lib.splitB x.p 0 (Lib.countB x.s x.p) x.s)) y ∧ y.a.isSome = true
  val _ y := .returned (.slice y.a y.n y.cap)
  post _ y := [y.A]
  rmono _ _ _ hs h := h.sub hs
theorem spl_ok : fo_k 145 splC := ⟨λx F I w hc hr hs => by
  obtain ⟨m, hm⟩ := hr.mx
  have h0 : x.s.size ≤ 1048576 := hc.1
  have hs : Sat I (ofL [F]) w := hs
  refine (Go.Proofs.Tryz.strings_Split x.s x.p m w (by omega) (hs.lookF hm) hc.2).mono ?_
  rintro e w' ⟨rfl, rfl⟩
  have hl := Lib.splitB_all x.p hc.2 0 _ x.s rfl
  have h2 := hs.new 1 (.cells (strs (Lib.splitB x.p 0 (Lib.countB x.s x.p) x.s)).toArray 9)
  refine ⟨⟨some ⟨w.heap.size, 0, none⟩, Lib.countB x.s x.p + 1, Lib.countB x.s x.p + 1, .cells w.heap.size (strs (Lib.splitB x.p 0 (Lib.countB x.s x.p) x.s)) 9⟩, I, ⟨?_, rfl⟩, rfl, Imm.le_refl I, Sat.pick [1, 0] rfl rfl h2, rfl, rfl⟩
  have := IsRow.blk (e := 9) (k := 1) (cs := strs (Lib.splitB x.p 0 (Lib.countB x.s x.p) x.s)) w.heap.size (Lib.countB x.s x.p + 1) (Lib.countB x.s x.p + 1) [] (by rw [strs_length, hl, Nat.mul_one]) (by rw [fo_an, strs_length, hl, Nat.mul_one]) (fo_nr _)
  rw [fo_an] at this
  exact this⟩
structure CtX where
  s : ByteArray
  c : Nat
abbrev ctC : Con where
  X := CtX
  Y := Unit
  args x := [.string x.s, .string (btL [x.c])]
  pre _ := []
  cond x := x.s.size ≤ 1048576 ∧ x.c < 256
  rdc _ F := Gl F
  rel _ _ := True
  val x _ := .returned (.tuple #[.string (cutA x.s x.c), .string (cutB x.s x.c), .bool (decide (atV x.s x.c 0 < x.s.size))])
  post _ _ := []
  rmono _ _ _ hs h := h.sub hs
theorem ct_ok : fo_k 42 ctC := FnOk.ofBelow ctC (λ_ => rfl) (λ_ _ => ()) (λ_ _ => fo_tv) (λ_ _ => rfl) λx F I w hc hr hs => by
  obtain ⟨m, hm⟩ := hr.mx
  have h0 : x.s.size ≤ 1048576 := hc.1
  have e : Lib.cut x.s.data.toList (btL [x.c]).data.toList = _ := cut_at x.s x.c hc.2
  refine (Go.Proofs.Tryz.strings_Cut x.s (btL [x.c]) m w (by omega) (hs.lookF hm)).mono λe' w' h => ⟨?_, let ⟨k, e⟩ := h.2; e ▸ below_drewN w k⟩
  rw [h.1, e]
  try show returned (tuple #[.string ⟨(cutA x.s x.c).data.toList.toArray⟩, .string ⟨(cutB x.s x.c).data.toList.toArray⟩, _]) = _
  try rfl
def tpV (s : ByteArray) (c : Nat) : ByteArray := bif decide (s.size > 0) && bt s 0 == c then s.extract 1 s.size else s
abbrev tpC : Con where
  X := CtX
  Y := Unit
  args x := [.string x.s, .string (btL [x.c])]
  pre _ := []
  cond x := x.c < 256
  rdc _ _ := True
  rel _ _ := True
  val x _ := .returned (.string (tpV x.s x.c))
  post _ _ := []
theorem tpV_lib (s : ByteArray) (c : Nat) (hc : c < 256) : (⟨(Lib.trimPrefix s.data.toList [UInt8.ofNat c]).toArray⟩ : ByteArray) = tpV s c := by
  unfold Lib.trimPrefix tpV
  have h1 := bt_toList s 0
  have h2 : s.data.toList.length = s.size := by simp
  cases hl : s.data.toList with
  | nil =>
    rw [hl] at h2
    have hz : s.size = 0 := h2.symm
    rw [fo_df (show ¬ s.size > 0 by omega), fo_fba, fo_cf]
    apply ByteArray.ext
    rw [← Array.toList_inj, hl] <;> rfl
  | cons b l =>
    rw [hl] at h1 h2
    have hz : 0 < s.size := by simp at h2; omega
    have hb : b = UInt8.ofNat (bt s 0) := by simpa using h1 hz
    rw [fo_dt hz, Bool.true_and]
    have hp : Lib.hasPrefix (b :: l) [UInt8.ofNat c] = (bt s 0 == c) := by
      have h3 : (b == UInt8.ofNat c) = (bt s 0 == c) := by
        rw [Bool.eq_iff_iff, beq_iff_eq, beq_iff_eq, hb]
        exact ofNat_eq (bt_lt' s 0) hc
      rw [← h3]
      rw [Bool.beq_comm (a := b)]
      show ([UInt8.ofNat c] : List UInt8).isPrefixOf (b :: l) = _
      rw [List.isPrefixOf, List.isPrefixOf, Bool.and_true]
    rw [hp]
    cases hq : (bt s 0 == c) with
    | true =>
      apply ByteArray.ext
      rw [← Array.toList_inj, fo_ct, ByteArray.data_extract, Array.toList_extract, hl]
      show l = ((b :: l).drop 1).take (s.size - 1)
      rw [← h2]
      simp
    | false =>
      apply ByteArray.ext
      rw [← Array.toList_inj, fo_cf, hl]
      simp
theorem tp_ok : fo_k 43 tpC := FnOk.ofBelow tpC (λ_ => rfl) (λ_ _ => ()) (λ_ _ => fo_tv) (λ_ _ => rfl) λx F I w hc hr hs =>
  (Go.Proofs.Tryz.strings_TrimPrefix x.s (btL [x.c]) w).mono λe' w' h => ⟨by rw [h.1, show (btL [x.c]).data.toList = [UInt8.ofNat x.c] from rfl, tpV_lib x.s x.c hc] <;> rfl, RowKit.Below.of_eq h.2⟩
end
section
open Go
set_option maxHeartbeats 1000000
theorem str_e0 (s : ByteArray) : (s.toList == (ByteArray.mk #[]).toList) = (s.size == 0) := by
  have h1 := str_ne s
  by_cases h : s.size > 0
  · rw [fo_dt h, Bool.not_eq_true'] at h1
    rw [h1]
    exact (fo_bf.2 (by omega)).symm
  · rw [fo_df h, Bool.not_eq_false'] at h1
    rw [h1]
    exact (beq_iff_eq.2 (by omega)).symm
section
variable {P : Program}
structure AlY where
  b : Nat
  vs : List Value
abbrev alC (t : TypeId) (n : Nat) : Con where
  X := Unit
  Y := AlY
  args _ := []
  pre _ := []
  cond _ := True
  rdc _ _ := True
  rel _ y := y.vs.length = n
  val _ y := .returned (.pointer (some ⟨y.b, 0, none⟩))
  post _ y := [.cells y.b y.vs t]
theorem al_ok {o : Oper} {t : TypeId} {inf : TypeInfo} {z : Value} {n : Nat} (ho : o.op = .alloc t) (hi : P.info? t = some inf) (hz : inf.zero = some z) (hn : z.cells.size = n) : OpOk P o (alC t n) := by
  refine ⟨λ_ F I w ρ ha hc hr hs => ?_⟩
  have hs : Sat I (ofL [F]) w := hs
  have h2 := hs.new 1 (.cells z.cells t)
  refine ⟨⟨w.heap.size, z.cells.toList⟩, I, w.alloc (.cells z.cells t), _, by simpa [alC] using hn, .inl ?_, rfl, Imm.le_refl I, Sat.pick [1, 0] rfl rfl h2, rfl, rfl⟩
  simp [execOp, ho, Instr.alloc, zeroValue, typeInfo, hi, hz, newVar, newRow, Sem.run]
structure SwX where
  b : Nat
  vs : List Value
  t : TypeId
  cs : List Value
abbrev swC (n : Nat) : Con where
  X := SwX
  Y := Unit
  args x := [.pointer (some ⟨x.b, 0, none⟩), .agg ⟨x.cs⟩]
  pre x := [.cells x.b x.vs x.t]
  cond x := (x.vs.length = n ∧ x.cs.length = n) ∧ (∀ u ∈ x.cs, u.oneCell' = true)
  rdc _ _ := True
  rel _ _ := True
  val _ _ := .returned undef
  post x _ := [.cells x.b x.cs x.t]
theorem sw_ok {o : Oper} {a v : Operand} {t : TypeId} {inf : TypeInfo} {n : Nat} (ho : o.op = .store t a v) (hi : P.info? t = some inf) (hn : inf.size = n) : OpOk P o (swC n) := by
  refine ⟨λx F I w ρ ha hc hr hs => ?_⟩
  obtain ⟨b, vs, ty, cs⟩ := x
  obtain ⟨⟨hl, hl2⟩, h1⟩ := hc
  dsimp only at hl hl2 h1
  simp only [ho, Op.operands, swC] at ha
  have ha2 : ρ a = .pointer (some ⟨b, 0, none⟩) ∧ ρ v = .agg ⟨cs⟩ := by simpa using ha
  have hblk : w.heap[b]? = some (.cells ⟨vs⟩ ty (0, 0)) := hs.cells (j := 0) rfl
  have hst := run_storeCells_at P b 0 ty cs 0 ⟨vs⟩ w hblk (by simp [hl, hl2]) h1
  have hset : (vs.take (0 + 0) ++ cs ++ vs.drop (0 + 0 + cs.length)) = cs := by simp [hl, hl2]
  rw [hset] at hst
  refine ⟨(), I, w.setRow b ⟨cs⟩, undef, fo_tv, .inr ⟨?_, rfl⟩, rfl, Imm.le_refl I, ?_, rfl, rfl⟩
  · simp [execOp, ho, ha2.1, ha2.2, Instr.storeAt, Instr.sureAddr, storeVar, sizeOf, typeInfo, hi, Value.cells, hl2, hn, hst]
  · exact hs.setRow (j := 0) (b := b) (vs := vs) (t := ty) (vs' := cs) rfl
end
def inS' (T : ByteArray) (b : Nat) : Bool := T.data.toList.contains (UInt8.ofNat b)
def asc (T : ByteArray) : Prop := ∀ b ∈ T.data.toList, b.toNat < 128
def setL (T : ByteArray) : List Value := (Lib.setCells T.data.toList).toList
theorem setL_at (T : ByteArray) {c : Nat} (h : c < 256) : (setL T)[c]? = some (.bool (inS' T c)) := by
  have := Lib.setCells_at T.data.toList (UInt8.ofNat c)
  rw [UInt8.toNat_ofNat', Nat.mod_eq_of_lt h] at this
  unfold setL
  rw [Array.getElem?_toList]
  exact this
theorem setL_len (T : ByteArray) : (setL T).length = 256 := by unfold setL; rw [Array.length_toList, Lib.setCells_size]
theorem setL_one (T : ByteArray) : ∀ u ∈ setL T, u.oneCell' = true := by
  intro u hu
  have := Lib.setCells_one T.data.toList
  rw [Array.all_eq_true_iff_forall_mem] at this
  exact this u (by simpa [setL] using hu)
structure TsX where
  t : ByteArray
abbrev mksC : Con where
  X := TsX
  Y := Unit
  args x := [.string x.t]
  pre _ := []
  cond x := x.t.size ≤ 1048576 ∧ asc x.t
  rdc _ _ := True
  rel _ _ := True
  val x _ := .returned (.tuple #[.agg ⟨setL x.t⟩, .bool true])
  post _ _ := []
theorem mks_ok : fo_k 149 mksC := ⟨λx F I w hc hr hs => by
  have h0 : x.t.size ≤ 1048576 := hc.1
  have hs : Sat I (ofL [F]) w := hs
  refine (Go.Proofs.Tryz.strings_makeASCIISet (λw => by kernel_rfl) x.t w (by omega) (λj b h => hc.2 b (fo_mg h))).mono ?_
  rintro e w' ⟨rfl, rfl⟩
  have h2 := hs.new 1 (.cells (Lib.setCells x.t.data.toList) 205)
  exact ⟨(), I, fo_tv, rfl, Imm.le_refl I, Sat.pick [0] rfl rfl h2, rfl, rfl⟩⟩
def SetIn (F : Atom) (b : Nat) (p : Nat → Bool) : Prop := ∀ c, c < 256 → Look F ⟨b, c, none⟩ (.bool (p c))
theorem SetIn.sub {A B : Atom} {b : Nat} {p : Nat → Bool} (hs : Sub A B) (h : SetIn A b p) : SetIn B b p := λc hc => (h c hc).sub hs
structure CnX where
  b : Nat
  p : Nat → Bool
  c : Nat
abbrev cnC : Con where
  X := CnX
  Y := Unit
  args x := [.pointer (some ⟨x.b, 0, none⟩), .int .u8 x.c]
  pre _ := []
  cond x := x.c < 256
  rdc x F := SetIn F x.b x.p
  rel _ _ := True
  val x _ := .returned (.bool (x.p x.c))
  post _ _ := []
  rmono _ _ _ hs h := h.sub hs
theorem cn_vc (x : CnX) (F : Atom) (hc : cnC.cond x) (hr : cnC.rdc x F) :
 (0 ≤ (x.c : Int) ∧ (x.c : Int) < (↑(256 : Nat) : Int)) ∧ ∃(a : Bool), Look F ⟨x.b, 0 + (x.c : Int).toNat * 1, none⟩ (fo_vb a) ∧ Done cnC x F (fo_rt (fo_vb a)) [(0, F)] := by
  delta fo_vb fo_rt
  have hc : x.c < 256 := hc
  exact ⟨⟨by omega, by show (x.c : Int) < 256; omega⟩, x.p x.c, by rw [fo_tn, Nat.mul_one, fo_za]; exact hr x.c hc, (), fo_tv, rfl, Ent.pick [0] rfl rfl⟩
theorem cn_ok : fo_k 150 cnC := fo 10 Tryz.func150 (λ_ _ => [(1, 4, .q [.ex 0 .bool])]) [] fo_i fo_i fo_o [] cn_vc
def trmL (p : Nat → Bool) (s : ByteArray) : ByteArray := s.extract (run1 s p 0) s.size
def trmR (p : Nat → Bool) (s : ByteArray) : ByteArray := s.extract 0 (runR s p s.size)
theorem runR_le (s : ByteArray) (p : Nat → Bool) : ∀ n, runR s p n ≤ n
  | 0 => fo_nr _
  | n + 1 => by
    rw [runR]
    cases p (bt s n) with
    | true => exact Nat.le_succ_of_le (runR_le s p n)
    | false => exact fo_nr _
theorem runR_spec (s : ByteArray) (p : Nat → Bool) : ∀ n, (∀ j, runR s p n ≤ j → j < n → p (bt s j) = true) ∧ (0 < runR s p n → p (bt s (runR s p n - 1)) = false)
  | 0 => ⟨λj h1 h2 => by omega, λh => by rw [runR] at h; omega⟩
  | n + 1 => by
    rw [runR]
    cases hp : p (bt s n) with
    | true =>
      rw [fo_ct]
      have ih := runR_spec s p n
      refine ⟨λj h1 h2 => ?_, ih.2⟩
      by_cases e : j = n
      · subst e; exact hp
      · exact ih.1 j h1 (by omega)
    | false =>
      rw [fo_cf]
      exact ⟨λj h1 h2 => by omega, λ_ => hp⟩
theorem ext_size0 (s : ByteArray) {n : Nat} (h : n ≤ s.size) : (s.extract 0 n).size = n := by rw [fo_se]; omega
theorem trm_eq (s : ByteArray) (p : Nat → Bool) : trmL p (trmR p s) = trmV p s := by
  unfold trmL trmR trmV
  have h1 := runR_le s p s.size
  have h2 := runR_spec s p s.size
  have h3 := rv_le s p (s.size + 1) 0 (fo_zl _)
  have h4 := rv_spec s p (s.size + 1) 0 (fo_zl _) (by omega)
  have hz := ext_size0 s h1
  change _ ∧ run1 s p 0 ≤ s.size at h3
  change (∀ j, 0 ≤ j → j < run1 s p 0 → _) ∧ (run1 s p 0 < s.size → p (bt s (run1 s p 0)) = false) at h4
  generalize run1 s p 0 = lo at *
  generalize runR s p s.size = hi at *
  rw [hz]
  by_cases e : hi = 0
  · subst e
    have : lo = s.size := by
      by_cases h : lo < s.size
      · have := h4.2 h
        rw [h2.1 lo (fo_zl _) h] at this
        cases this
      · omega
    subst this
    rw [show max s.size 0 = s.size by omega, ext_end s s.size (fo_nr _)]
    have : run1 (s.extract 0 0) p 0 = 0 := by
      have := (rv_le (s.extract 0 0) p ((s.extract 0 0).size + 1) 0 (fo_zl _)).2
      show runV _ _ _ _ = 0
      omega
    rw [this]
    apply ByteArray.ext
    apply Array.eq_empty_of_size_eq_zero
    simp [ByteArray.data_extract]
  · have hlt : lo < hi := by
      rcases Nat.lt_or_ge lo hi with h | h
      · exact h
      · have a := h2.2 (by omega)
        rw [h4.1 (hi - 1) (fo_zl _) (by omega)] at a
        cases a
    have : run1 (s.extract 0 hi) p 0 = lo := by
      unfold run1
      refine rv_eq _ _ _ _ _ (fo_zl _) (by omega) (by omega) (λj _ hj => ?_) (λh => ?_)
      · rw [bt_extr (by omega) h1, fo_za]; exact h4.1 j (fo_zl _) hj
      · rw [bt_extr (by omega) h1, fo_za]; exact h4.2 (by omega)
    rw [this, show max lo hi = hi by omega, ByteArray.extract_extract]
    congr 1 <;> omega
structure TmX where
  s : ByteArray
  b : Nat
  p : Nat → Bool
abbrev trC (v : (Nat → Bool) → ByteArray → ByteArray) : Con where
  X := TmX
  Y := Unit
  args x := [.string x.s, .pointer (some ⟨x.b, 0, none⟩)]
  pre _ := []
  cond x := x.s.size ≤ 1048576
  rdc x F := SetIn F x.b x.p
  rel _ _ := True
  val x _ := .returned (.string (v x.p x.s))
  post _ _ := []
  rmono _ _ _ hs h := h.sub hs
abbrev tlC : Con := trC trmL
abbrev trrC : Con := trC trmR
structure TlS where
  k : Nat
  f : Nat
def tlInv (x : TmX) (F : Atom) : Nat → Option Inv := fun
  | 0 => some { X := TlS, P := λd => d.k ≤ x.s.size ∧ x.s.size < d.k + d.f ∧ run1 x.s x.p 0 = runV x.s x.p d.f d.k, mu := λd => x.s.size - d.k, lv := λd => [(0, .string (x.s.extract d.k x.s.size)), (1, .pointer (some ⟨x.b, 0, none⟩))], st := λ_ => [F] }
  | _ => none
def q207 (a : TlS) (x : TmX) := a.k ≤ x.s.size ∧ x.s.size < a.k + a.f ∧ run1 x.s x.p 0 = runV x.s x.p a.f a.k
abbrev q179 (x : TmX) : Option Addr := some ⟨x.b, 0, none⟩
def T19 := fo_C2 150 cnC (λw0 => w0.c < 256) (λw0 w1 => SetIn w1 w0.b w0.p)
theorem tl_vc (x : TmX) (F : Atom) (hc : tlC.cond x) (hr : tlC.rdc x F) :
 (∃(a : TlS), q207 a x ∧ (fo_vs x.s = fo_vs (x.s.extract a.k x.s.size) ∧ fo_vp (q179 x) = fo_vp (q179 x) ∧ True) ∧ Ent [(0, F)] [(0, F)]) ∧ fo_vA λ(e : TlS) _ => q207 e x → fo_Bd ((↑(x.s.extract e.k x.s.size).size : Int) > 0) (((0 : Int) ≤ (0 : Int) ∧ 0 < (↑(x.s.extract e.k x.s.size).size : Int)) ∧ T19 [fo_vp (q179 x), fo_vc (byteAt (x.s.extract e.k x.s.size) (0 : Int))] (q114 F) (λc b => Br (!c.p c.c) (Done tlC x F (fo_rt (fo_vs (x.s.extract e.k x.s.size))) [(0, F)]) (((0 : Int) ≤ (1 : Int) ∧ 1 ≤ (↑(x.s.extract e.k x.s.size).size : Int) ∧ (↑(x.s.extract e.k x.s.size).size : Int) ≤ (↑(x.s.extract e.k x.s.size).size : Int)) ∧ ∃(a : TlS), q207 a x ∧ (fo_vs ((x.s.extract e.k x.s.size).extract (Int.toNat (1 : Int)) (↑(x.s.extract e.k x.s.size).size : Int).toNat) = fo_vs (x.s.extract a.k x.s.size) ∧ fo_vp (q179 x) = fo_vp (q179 x) ∧ True) ∧ Ent [(0, F)] [(0, F)] ∧ x.s.size - a.k < x.s.size - e.k))) (Done tlC x F (fo_rt (fo_vs (x.s.extract e.k x.s.size))) [(0, F)]) := by
  delta q207 q179 T19 q114 fo_aR fo_C2 fo_vc fo_vs fo_vp fo_Bd fo_rt fo_vA
  have hs : x.s.size ≤ 1048576 := hc
  refine ⟨⟨⟨0, x.s.size + 1⟩, ⟨fo_zl _, by dsimp only; omega, rfl⟩, ⟨by rw [ext_all], rfl, fo_tv⟩, Ent.pick [0] rfl rfl⟩, ?_⟩
  rintro ⟨k, f⟩ js ⟨h1, h2, h3⟩
  dsimp only at h1 h2 h3 ⊢
  obtain ⟨f', rfl⟩ : ∃ f', f = f' + 1 := ⟨f - 1, by omega⟩
  have hsz : (x.s.extract k x.s.size).size = x.s.size - k := by rw [fo_se]; omega
  have eb : byteAt (x.s.extract k x.s.size) 0 = (bt x.s k : Int) := by rw [byteAt_bt, Int.toNat_zero, bt_ext', Nat.add_zero]
  rw [hsz, eb]
  rw [runV] at h3
  have fin : run1 x.s x.p 0 = k → Done tlC x F (returned (string (x.s.extract k x.s.size))) [(0, F)] := λe => ⟨(), fo_tv, by show _ = returned (.string (x.s.extract (run1 x.s x.p 0) x.s.size)); rw [e], Ent.pick [0] rfl rfl⟩
  refine br_decide (λh => ⟨⟨fo_ir _, h⟩, cn_ok, rfl, ⟨x.b, x.p, bt x.s k⟩, rfl, rfl, bt_lt _ _, SetIn.sub (sub_rest 0 (by simp) rfl) hr, λ_ _ => br_intro (λe => fin ?_) (λe => ?_)⟩) (λh => fin ?_)
  · have e : (!x.p (bt x.s k)) = true := e
    rw [Bool.not_eq_true'] at e
    rw [e, fo_baf] at h3
    exact h3
  · have e : (!x.p (bt x.s k)) = false := e
    rw [Bool.not_eq_false'] at e
    rw [e, fo_dt (show k < x.s.size by omega)] at h3
    refine ⟨⟨by omega, by omega, fo_ir _⟩, ⟨k + 1, f'⟩, ⟨by dsimp only; omega, by dsimp only; omega, h3⟩, ⟨?_, rfl, fo_tv⟩, Ent.pick [0] rfl rfl, by dsimp only; omega⟩
    show string ((x.s.extract k x.s.size).extract 1 ((x.s.size - k : Nat) : Int).toNat) = _
    rw [fo_tn, ext_ext _ _ _ _ (by omega)]
    congr 2
    omega
  · rw [fo_df (show ¬ k < x.s.size by omega), fo_fba] at h3
    exact h3
theorem tl_ok : fo_k 153 tlC := fo 16 Tryz.func153 (λ_ _ => [(2, 3, .c cnC [] [])]) [] tlInv fo_i fo_o [] tl_vc
def trInv (x : TmX) (F : Atom) : Nat → Option Inv := fun
  | 0 => some { X := Nat, P := λn => n ≤ x.s.size ∧ runR x.s x.p x.s.size = runR x.s x.p n, mu := λn => n, lv := λn => [(0, .string (x.s.extract 0 n)), (1, .pointer (some ⟨x.b, 0, none⟩))], st := λ_ => [F] }
  | _ => none
def q266 (a : Nat) (x : TmX) := a ≤ x.s.size ∧ runR x.s x.p x.s.size = runR x.s x.p a
theorem tr_vc (x : TmX) (F : Atom) (hc : trrC.cond x) (hr : trrC.rdc x F) :
 (∃(a : Nat), q266 a x ∧ (fo_vs x.s = fo_vs (x.s.extract 0 a) ∧ fo_vp (q179 x) = fo_vp (q179 x) ∧ True) ∧ Ent [(0, F)] [(0, F)]) ∧ fo_vA λ(e : Nat) _ => q266 e x → fo_Bd ((↑(x.s.extract 0 e).size : Int) > 0) (fo_rI ((↑(x.s.extract 0 e).size : Int) - 1) ∧ (0 ≤ (↑(x.s.extract 0 e).size : Int) - 1 ∧ (↑(x.s.extract 0 e).size : Int) - 1 < (↑(x.s.extract 0 e).size : Int)) ∧ T19 [fo_vp (q179 x), fo_vc (byteAt (x.s.extract 0 e) ((↑(x.s.extract 0 e).size : Int) - 1))] (q114 F) (λc b => Br (!c.p c.c) (Done trrC x F (fo_rt (fo_vs (x.s.extract 0 e))) [(0, F)]) (fo_rI ((↑(x.s.extract 0 e).size : Int) - 1) ∧ ((0 : Int) ≤ (0 : Int) ∧ 0 ≤ (↑(x.s.extract 0 e).size : Int) - 1 ∧ (↑(x.s.extract 0 e).size : Int) - 1 ≤ (↑(x.s.extract 0 e).size : Int)) ∧ ∃(a : Nat), q266 a x ∧ (fo_vs ((x.s.extract 0 e).extract (Int.toNat (0 : Int)) ((↑(x.s.extract 0 e).size : Int) - 1).toNat) = fo_vs (x.s.extract 0 a) ∧ fo_vp (q179 x) = fo_vp (q179 x) ∧ True) ∧ Ent [(0, F)] [(0, F)] ∧ a < e))) (Done trrC x F (fo_rt (fo_vs (x.s.extract 0 e))) [(0, F)]) := by
  delta q266 q179 T19 q114 fo_aR fo_rI fo_C2 fo_vc fo_vs fo_vp fo_Bd fo_rt fo_vA
  have hs : x.s.size ≤ 1048576 := hc
  refine ⟨⟨x.s.size, ⟨fo_nr _, rfl⟩, ⟨by rw [ext_all], rfl, fo_tv⟩, Ent.pick [0] rfl rfl⟩, ?_⟩
  rintro n js ⟨h1, h2⟩
  have hsz := ext_size0 x.s h1
  rw [hsz]
  have fin : runR x.s x.p x.s.size = n → Done trrC x F (returned (string (x.s.extract 0 n))) [(0, F)] := λe => ⟨(), fo_tv, by show _ = returned (.string (x.s.extract 0 (runR x.s x.p x.s.size))); rw [e], Ent.pick [0] rfl rfl⟩
  refine br_decide (λh => ?_) (λh => fin ?_)
  · obtain ⟨m, rfl⟩ : ∃ m, n = m + 1 := ⟨n - 1, by omega⟩
    have eb : byteAt (x.s.extract 0 (m + 1)) (((m + 1 : Nat) : Int) - 1) = (bt x.s m : Int) := by rw [byteAt_bt, show (((m + 1 : Nat) : Int) - 1).toNat = m by omega, bt_extr (by omega) h1, fo_za]
    rw [eb]
    rw [runR] at h2
    refine ⟨⟨by omega, by omega⟩, ⟨by omega, by omega⟩, cn_ok, rfl, ⟨x.b, x.p, bt x.s m⟩, rfl, rfl, bt_lt _ _, SetIn.sub (sub_rest 0 (by simp) rfl) hr, λ_ _ => br_intro (λe => fin ?_) (λe => ?_)⟩
    · have e : (!x.p (bt x.s m)) = true := e
      rw [Bool.not_eq_true'] at e
      rw [e] at h2
      exact h2
    · have e : (!x.p (bt x.s m)) = false := e
      rw [Bool.not_eq_false'] at e
      rw [e] at h2
      refine ⟨⟨by omega, by omega⟩, ⟨fo_ir _, by omega, by omega⟩, m, ⟨by omega, h2⟩, ⟨?_, rfl, fo_tv⟩, Ent.pick [0] rfl rfl, fo_ls m⟩
      rw [show (((m + 1 : Nat) : Int) - 1).toNat = m by omega, ByteArray.extract_extract]
      show string (x.s.extract (0 + 0) (min (0 + m) (m + 1))) = _
      congr 2
      omega
  · have : n = 0 := by omega
    subst this
    exact h2
theorem tr_ok : fo_k 154 trrC := fo 22 Tryz.func154 (λ_ _ => [(2, 6, .c cnC [] [])]) [] trInv fo_i fo_o [] tr_vc
structure T2X where
  s : ByteArray
  t : ByteArray
abbrev tmC : Con where
  X := T2X
  Y := Unit
  args x := [.string x.s, .string x.t]
  pre _ := []
  cond x := x.s.size ≤ 1048576 ∧ x.t.size ≤ 1048576 ∧ 2 ≤ x.t.size ∧ asc x.t
  rdc _ _ := True
  rel _ _ := True
  val x _ := .returned (.string (trmV (inS' x.t) x.s))
  post _ _ := []
def tmCut (x : T2X) (F : Atom) : Nat → Option Inv := fun
  | 5 => some { X := Unit, P := λ_ => 0 < x.s.size, mu := λ_ => 0, lv := λ_ => [(0, .string x.s), (1, .string x.t)], st := λ_ => [F] }
  | _ => none
abbrev q59 : ByteArray := ByteArray.mk #[]
def q318 (x : T2X) := (0 : Int) ≤ (0 : Int) ∧ 0 < (x.t.size : Int)
def T20 (e0 : T2X) (e1 : Atom) (ss : St) := ∃ (z : Unit), 0 < e0.s.size ∧ (fo_vs e0.s = fo_vs e0.s ∧ fo_vs e0.t = fo_vs e0.t ∧ True) ∧ Ent ss [(0, e1)]
def T21 := fo_C1 149 mksC (λw0 => w0.t.size ≤ 1048576 ∧ asc w0.t)
abbrev q76 : Unit → Prop := λ_ => True
def T22 (oo : Oper) := fo_O5 oo (alC (205 : TypeId) 256) q76 (λ_ w1 => w1.vs.length = 256)
def T23 (oo : Oper) := fo_O3 oo (swC 256) (λw0 => ((w0.vs.length = 256 ∧ w0.cs.length = 256) ∧ ∀(w1 : Value), w1 ∈ w0.cs → w1.oneCell' = true))
abbrev q322 (g : AlY) : Option Addr := some ⟨g.b, 0, none⟩
theorem tm_vc (x : T2X) (F : Atom) (hc : tmC.cond x) (hr : tmC.rdc x F) :
 Br (x.s.toList == q59.toList) (Done tmC x F (fo_rt (fo_vs x.s)) [(0, F)]) (Br (x.t.toList == q59.toList) (Done tmC x F (fo_rt (fo_vs x.s)) [(0, F)]) (Br ((x.t.size : Int) == 1) (q318 x ∧ fo_Bd (byteAt x.t (0 : Int) < (128 : Int)) (true = true ∧ q318 x ∧ False) (T20 x F [(0, F)])) (T20 x F [(0, F)]) ∧ fo_vA λ(l : Unit) _ => 0 < x.s.size → T21 [fo_vs x.t] (λj i => T22 ⟨some 5, Op.alloc 205, 0, "strings.go:987", ⟨[]⟩, none⟩ ([] : List Value) (λh g => T23 (opIn Tryz.f98 5 6) [fo_vp (q322 g), agg ⟨setL j.t⟩] [fo_cl g.b g.vs 205] (λf e => fo_C2 154 trrC (λd => d.s.size ≤ 1048576) (λd rr => SetIn rr d.b d.p) [fo_vs x.s, fo_vp (q322 g)] (fo_aR [(0, F), (6050, fo_cl f.b f.cs f.t)] []) (λd c => fo_C2 153 tlC (λb => b.s.size ≤ 1048576) (λb rr => SetIn rr b.b b.p) [fo_vs (trmR d.p d.s), fo_vp (q322 g)] (fo_aR [(0, F), (6050, fo_cl f.b f.cs f.t)] []) (λb a => Done tmC x F (fo_rt (fo_vs (trmL b.p b.s))) [(0, F), (6050, fo_cl f.b f.cs f.t)]))))))) := by
  delta q59 q318 T20 T21 q76 T22 T23 q322 fo_aR fo_C1 fo_C2 fo_O3 fo_O5 fo_vs fo_vp fo_cl fo_Bd fo_rt fo_vA
  obtain ⟨hs, ht, h2, hasc⟩ := hc
  refine br_intro (λe => ?_) (λe => br_intro (λe2 => ?_) (λ_ => ⟨br_intro (λe2 => ?_) (λ_ => ?_), ?_⟩))
  · rw [str_e0] at e
    have e : x.s.size = 0 := by simpa using e
    refine ⟨(), fo_tv, ?_, Ent.pick [0] rfl rfl⟩
    show _ = returned (.string (trmV (inS' x.t) x.s))
    have h0 : x.s = ⟨#[]⟩ := by apply ByteArray.ext; exact Array.eq_empty_of_size_eq_zero e
    congr 2
    unfold trmV
    have : runR x.s (inS' x.t) x.s.size = 0 := by rw [e] <;> rfl
    rw [this]
    have : run1 x.s (inS' x.t) 0 = 0 := by have := (rv_le x.s (inS' x.t) (x.s.size + 1) 0 (fo_zl _)).2; show runV _ _ _ _ = 0; omega
    rw [this, h0] <;> rfl
  · rw [str_e0] at e2
    have e2 : x.t.size = 0 := by simpa using e2
    omega
  · have e2 : (x.t.size : Int) = 1 := by simpa using e2
    omega
  · rw [str_e0] at e
    have e : x.s.size ≠ 0 := by simpa using e
    exact ⟨(), by omega, ⟨rfl, rfl, fo_tv⟩, Ent.pick [0] rfl rfl⟩
  intro _ js _
  have hset : ∀ b : Nat, SetIn (.pred (rest [(0, F), (6050, Atom.cells b (setL x.t) 205)] [])) b (inS' x.t) := λb c hc => Look.rest (j := 6050) (by simp) (Look.cells (setL_at x.t hc))
  have hr2 : (trmR (inS' x.t) x.s).size ≤ 1048576 := by unfold trmR; rw [fo_se]; omega
  exact ⟨mks_ok, rfl, ⟨x.t⟩, rfl, rfl, ⟨ht, hasc⟩, fo_tv, λ_ _ => ⟨al_ok rfl rfl rfl (by kernel_rfl), rfl, (), rfl, rfl, fo_tv, fo_tv, λy hy => ⟨sw_ok rfl rfl rfl, rfl, ⟨y.b, y.vs, _, setL x.t⟩, rfl, rfl, ⟨⟨hy, setL_len _⟩, setL_one _⟩, fo_tv, λ_ _ => ⟨tr_ok, rfl, ⟨x.s, y.b, inS' x.t⟩, rfl, rfl, hs, hset y.b, λ_ _ => ⟨tl_ok, rfl, ⟨trmR (inS' x.t) x.s, y.b, inS' x.t⟩, rfl, rfl, hr2, hset y.b, λ_ _ => ⟨(), fo_tv, by show _ = returned (.string (trmV (inS' x.t) x.s)); rw [trm_eq], Ent.pick [0] rfl rfl⟩⟩⟩⟩⟩⟩
theorem tm_ok : fo_k 98 tmC := fo 43 Tryz.func98 (λ_ _ => [(5, 1, .c mksC [] []), (5, 5, .o (alC 205 256) [] [6050]), (5, 6, .o (swC 256) [6050] [6050]), (7, 1, .c trrC [] []), (7, 2, .c tlC [] [])]) [(4, 3, OH.q [])] fo_i tmCut fo_o [] tm_vc
end
section
open Go
set_option maxHeartbeats 1000000
def fCs (l : List Fld) : List Value := l.flatMap λf => [.string f.1, .string f.2]
theorem fCs_length (l : List Fld) : (fCs l).length = l.length * 2 := by
  unfold fCs
  induction l with
  | nil => rfl
  | cons a l ih => rw [List.flatMap_cons, fo_la, ih, fo_lc]; simp; omega
theorem fCs_app (l m : List Fld) : fCs (l ++ m) = fCs l ++ fCs m := by unfold fCs; rw [List.flatMap_append]
theorem fCs_get {l : List Fld} {j : Nat} {f : Fld} (h : l[j]? = some f) : (fCs l)[2 * j]? = some (.string f.1) ∧ (fCs l)[2 * j + 1]? = some (.string f.2) := by
  unfold fCs
  induction l generalizing j with
  | nil => simp at h
  | cons a l ih =>
    rw [List.flatMap_cons]
    cases j with
    | zero => simp at h; subst h; exact ⟨rfl, rfl⟩
    | succ j =>
      have := ih (j := j) (by simpa using h)
      rw [show 2 * (j + 1) = 2 * j + 1 + 1 by omega]
      exact this
theorem fCs_one {l : List Fld} {u : Value} (h : u ∈ fCs l) : u.oneCell' = true := by
  unfold fCs at h
  obtain ⟨f, _, hf⟩ := List.mem_flatMap.1 h
  simp at hf
  rcases hf with rfl | rfl <;> rfl
structure FpY where
  l : List Fld
  r : Row
abbrev fpC : Con where
  X := StX
  Y := FpY ⊕ Int
  args x := [.string x.s]
  pre _ := []
  cond x := x.s.size ≤ 1048576
  rdc _ F := Gl F
  rel x y := match y with
    | .inl y => fdV x.s = some y.l ∧ IsRow 36 2 (fCs y.l) y.r
    | .inr e => fdV x.s = none ∧ e ≠ 0
  val _ y := match y with
    | .inl y => .returned (.tuple #[.slice y.r.a y.r.n y.r.cap, .int .i64 0])
    | .inr e => .returned (.tuple #[.slice none 0 0, .int .i64 e])
  post _ y := match y with
    | .inl y => [y.r.A]
    | .inr _ => []
  rmono _ _ _ hs h := h.sub hs
  sum := some (sumS FpY Int)
structure FpS where
  L : List ByteArray
  b : Nat
  vs : List Value
  cap : Nat
  i : Nat
  l : List Fld
  r : Row
theorem pcF_len (s : ByteArray) : ∀ (f i : Nat), i ≤ s.size → (pcF s f i).length ≤ s.size - i + 1
  | 0, i, h => fo_zl _
  | f + 1, i, h => by
    have ha := at_spec s 38 i h
    rw [pcF, fo_lc]
    by_cases hlt : atV s 38 i < s.size
    · rw [fo_dt hlt, fo_ct]
      have := pcF_len s f (atV s 38 i + 1) (by omega)
      omega
    · rw [fo_df hlt]
      exact Nat.succ_le_succ (fo_zl _)
theorem pcF_le (s : ByteArray) : ∀ (f i : Nat) (p : ByteArray), p ∈ pcF s f i → p.size ≤ s.size
  | 0, i, p, h => by cases h
  | f + 1, i, p, h => by
    rw [pcF] at h
    rcases List.mem_cons.1 h with rfl | h
    · rw [fo_se]; omega
    · cases hb : decide (atV s 38 i < s.size) with
      | true => rw [hb] at h; exact pcF_le s f _ p h
      | false => rw [hb] at h; cases h
structure FpS.ok (d : FpS) (s : ByteArray) : Prop where
  hs : s.size ≤ 4096
  hL : d.L = pcV s
  hi : d.i ≤ d.L.length
  hv : ∀ (j : Nat) (p : ByteArray), d.L[j]? = some p → d.vs[j]? = some (string p)
  hl : d.l.length ≤ d.i
  hr : IsRow 36 2 (fCs d.l) d.r
  he : fdL (pcV s) [] = fdL (d.L.drop d.i) d.l
def fpInv (x : StX) (F : Atom) : Nat → Option Inv := fun
  | 0 => some { X := FpS, P := λd => d.ok x.s, mu := λd => d.L.length - d.i, lv := λd => [(4, .slice d.r.a d.r.n d.r.cap), (18, .slice (some ⟨d.b, 0, none⟩) d.L.length d.cap), (19, .int .i64 d.L.length), (20, .int .i64 d.i)], st := λd => [.cells d.b d.vs 9, d.r.A, F] }
  | _ => none
def T24 := fo_C4 145 splC (λw0 => w0.s.size ≤ 1048576 ∧ 1 ≤ w0.p.size) (λ_ => Gl) (λw0 w2 => IsRow 9 1 (strs (Lib.splitB w0.p 0 (Lib.countB w0.s w0.p) w0.s)) w2 ∧ w2.a.isSome = true)
abbrev q124 (z : FpS) (e1 : Atom) := [(0, fo_cl z.b z.vs 9), (1, z.r.A), (2, e1)]
def T25 (aa : Atom) (ad : Addr) (k0 : ByteArray → Prop) := ∃ (z0 : ByteArray), Look aa ad (fo_vs z0) ∧ k0 z0
def T26 (e0 : StX) (e1 : Atom) (v0 v1 v2 v3 : Value) (ss : St) (mm : Nat) := ∃ (z : FpS), z.ok e0.s ∧ (v0 = fo_vl z.r.a z.r.n z.r.cap ∧ v1 = fo_vl (some ⟨z.b, 0, none⟩) z.L.length z.cap ∧ v2 = fo_vi ↑z.L.length ∧ v3 = fo_vi ↑z.i ∧ True) ∧ Ent ss (q124 z e1) ∧ z.L.length - z.i < mm
def T27 := fo_C2 42 ctC (λw0 => w0.s.size ≤ 1048576 ∧ w0.c < 256) (λ_ => Gl)
abbrev q237 : StX → Prop := λw0 => w0.s.size ≤ 1048576
def T28 := fo_C1 146 sdC q237
abbrev q311 := fo_rt (tuple ⟨[fo_vl none 0 0, fo_vi 210]⟩)
def T29 (oo : Oper) := fo_O4 oo (apC (36 : TypeId) 2 32) (λw0 => IsRow 36 2 w0.cs w0.r ∧ w0.ys.length = w0.m * 2 ∧ q293 w0 ∧ (w0.r.n + w0.m) * 32 ≤ 140737488355328 ∧ w0.r.n + w0.m ≤ 9223372036854775807 ∧ q261 w0) q149 (λw0 w3 => IsRow 36 2 (w0.cs ++ w0.ys) w3 ∧ w3.n = w0.r.n + w0.m ∧ (w0.m = 0 → w3 = w0.r))
theorem fp_vc (x : StX) (F : Atom) (hc : fpC.cond x) (hr : fpC.rdc x F) :
 fo_Bd ((x.s.size : Int) > 4096) (Done fpC x F (fo_rt (tuple ⟨[fo_vl none 0 0, fo_vi 2]⟩)) [(0, F)]) (T24 [fo_vs x.s, fo_vs ⟨#[38]⟩] ([] : List Atom) (q114 F) (λo n => (∃(a : FpS), a.ok x.s ∧ (fo_vl none 0 0 = fo_vl a.r.a a.r.n a.r.cap ∧ fo_vl n.a n.n n.cap = fo_vl (some ⟨a.b, 0, none⟩) a.L.length a.cap ∧ fo_vi ↑n.n = fo_vi ↑a.L.length ∧ fo_vi 0 = fo_vi ↑a.i ∧ True) ∧ Ent [(0, F), (500, n.A)] (q124 a F)) ∧ fo_vA λ(m : FpS) _ => m.ok x.s → fo_Bd ((m.i : Int) < (m.L.length : Int)) ((0 ≤ (m.i : Int) ∧ (m.i : Int) < (m.L.length : Int)) ∧ T25 (fo_cl m.b m.vs 9) ⟨m.b, 0 + (m.i : Int).toNat * 1, none⟩ (λk => Br (k.toList == q59.toList) (fo_rI ((m.i : Int) + 1) ∧ T26 x F (fo_vl m.r.a m.r.n m.r.cap) (fo_vl (some ⟨m.b, 0, none⟩) m.L.length m.cap) (fo_vi ↑m.L.length) (fo_vi ((m.i : Int) + 1)) (q124 m F) (m.L.length - m.i)) (T27 [fo_vs k, fo_vs ⟨#[61]⟩] (fo_aR (q124 m F) []) (λj i => T28 [fo_vs (cutA j.s j.c)] (λh g => T28 [fo_vs (cutB j.s j.c)] (λf e => Br (!(sdV h.s).isSome) (Done fpC x F q311 (q124 m F)) (Br (!(sdV f.s).isSome) (Done fpC x F q311 (q124 m F)) (∀(d : Nat), T29 (opIn Tryz.f94 13 5) [fo_vl m.r.a m.r.n m.r.cap, fo_vl (q17 d) 1 1] [m.r.A] (fo_aR [(0, fo_cl m.b m.vs 9), (1, m.r.A), (2, F), (14040, fo_cl d [fo_vs ((sdV h.s).getD q59), fo_vs ((sdV f.s).getD q59)] 36)] [1]) (λc b => fo_rI ((m.i : Int) + 1) ∧ T26 x F (fo_vl b.a b.n b.cap) (fo_vl (some ⟨m.b, 0, none⟩) m.L.length m.cap) (fo_vi ↑m.L.length) (fo_vi ((m.i : Int) + 1)) [(0, fo_cl m.b m.vs 9), (1, b.A), (2, F), (14040, fo_cl d [fo_vs ((sdV h.s).getD q59), fo_vs ((sdV f.s).getD q59)] 36)] (m.L.length - m.i)))))))))) (fo_Bd ((m.r.n : Int) > 32) (Done fpC x F (fo_rt (tuple ⟨[fo_vl none 0 0, fo_vi 4]⟩)) (q124 m F)) (Done fpC x F (fo_rt (tuple ⟨[fo_vl m.r.a m.r.n m.r.cap, fo_vi 0]⟩)) (q124 m F))))) := by
  delta T24 q114 q124 T25 q59 T26 T27 q237 T28 q311 q293 q261 q149 T29 q17 fo_aR fo_rI fo_C1 fo_C2 fo_C4 fo_O4 fo_vi fo_vs fo_vl fo_cl fo_Bd fo_rt fo_vA
  have none' : ∀ (S : St) (e : Int), fdV x.s = none → e ≠ 0 → Ent S (ofL [F]) → Done fpC x F (returned (tuple #[slice none 0 0, int i64 e])) S := λS e h1 h2 h3 => ⟨.inr e, ⟨h1, h2⟩, rfl, h3⟩
  refine br_decide (λh => none' _ _ ?_ (by decide) (Ent.pick [0] rfl rfl)) (λh => ?_)
  · unfold fdV
    rw [fo_dt (show x.s.size > 4096 by omega)] <;> rfl
  have hs : x.s.size ≤ 4096 := by omega
  have hfd : fdV x.s = (match fdL (pcV x.s) [] with | some l => bif decide (l.length > 32) then none else some l | none => none) := by
    unfold fdV
    rw [fo_df (show ¬ x.s.size > 4096 by omega)] <;> rfl
  have hple : ∀ p ∈ pcV x.s, p.size ≤ 4096 := λp hp => fo_lt (pcF_le _ _ _ p hp) hs
  have hplen : (pcV x.s).length ≤ 4097 := fo_lt (pcF_len _ _ _ (fo_zl _)) (by omega)
  have hspl := split_pcV x.s
  refine ⟨spl_ok, rfl, ⟨x.s, btL [38]⟩, rfl, rfl, ⟨by dsimp only; omega, show 1 ≤ (btL [38]).size from fo_nr 1⟩, Gl.sub hr (sub_rest 0 (by simp) rfl), λy hy => ⟨?_, ?_⟩⟩
  · obtain ⟨hrow, hsome⟩ := hy
    dsimp only at hrow
    rw [hspl] at hrow
    cases hrow with
    | nil h => cases hsome
    | blk b n cap sp hl hsz hn =>
      rw [strs_length, Nat.mul_one] at hl
      subst hl
      refine ⟨⟨pcV x.s, b, strs (pcV x.s) ++ sp, cap, 0, [], nilRow⟩, ⟨hs, rfl, fo_zl _, λj p hj => ?_, fo_nr _, .nil rfl, rfl⟩, ⟨rfl, rfl, rfl, rfl, fo_tv⟩, Ent.pick [500, 999, 0] rfl rfl⟩
      dsimp only at hj ⊢
      have hj2 := (fo_gs.1 hj).1
      rw [fo_gl (by rw [strs_length]; exact hj2)]
      unfold strs
      rw [fo_gm, hj] <;> rfl
  rintro ⟨L, b, vs, cap, i, l, r⟩ js ⟨_, hL, hi, hv, hl, hrr, he⟩
  dsimp only at hL hi hv hl hrr he ⊢
  have hLl : L.length ≤ 4097 := by rw [hL]; exact hplen
  have hgl : ∀ S : St, gt S 2 = F → Gl (.pred (rest S [])) := λS e => Gl.rest (j := 2) (by simp) (by rw [e]; exact hr)
  have hn := hrr.len
  rw [fCs_length] at hn
  refine br_decide (λh => ?_) (λh => ?_)
  · have hlt : i < L.length := by omega
    obtain ⟨q, hq⟩ : ∃ q, L[i]? = some q := ⟨L[i], fo_ge hlt⟩
    have hdrop : L.drop i = q :: L.drop (i + 1) := by
      rw [List.drop_eq_getElem_cons hlt]
      rw [fo_ge hlt] at hq
      rw [Option.some.inj hq]
    rw [hdrop] at he
    have hqs : q.size ≤ 4096 := hple q (by rw [← hL]; exact fo_mg hq)
    have hca : (cutA q 61).size ≤ 1048576 := by unfold cutA; rw [fo_se]; omega
    have hcb : (cutB q 61).size ≤ 1048576 := by unfold cutB; rw [fo_se]; omega
    refine ⟨⟨by omega, h⟩, q, Look.cells (by rw [fo_tn, fo_za, Nat.mul_one]; exact hv i q hq), br_intro (λe => ?_) (λe => ⟨ct_ok, rfl, ⟨q, 61⟩, rfl, rfl, ⟨by dsimp only; omega, by dsimp only; omega⟩, hgl _ rfl, λ_ _ => ⟨sd_ok, rfl, ⟨cutA q 61⟩, rfl, rfl, hca, fo_tv, λ_ _ => ⟨sd_ok, rfl, ⟨cutB q 61⟩, rfl, rfl, hcb, fo_tv, λ_ _ => ?_⟩⟩⟩)⟩
    · rw [str_e0] at e
      rw [fdL, e, fo_ct] at he
      exact ⟨⟨by omega, by omega⟩, ⟨L, b, vs, cap, i + 1, l, r⟩, ⟨hs, hL, hlt, hv, by dsimp only; omega, hrr, he⟩, ⟨rfl, rfl, rfl, rfl, fo_tv⟩, Ent.pick [0, 1, 2] rfl rfl, by dsimp only; omega⟩
    rw [str_e0] at e
    rw [fdL, e, fo_cf] at he
    dsimp only
    revert he
    generalize sdV (cutA q 61) = u
    generalize sdV (cutB q 61) = v
    intro he
    refine br_intro (λe1 => none' _ _ ?_ (by decide) (Ent.pick [2] rfl rfl)) (λe1 => br_intro (λe2 => none' _ _ ?_ (by decide) (Ent.pick [2] rfl rfl)) (λe2 => ?_))
    · cases u with
      | none => rw [hfd, he]
      | some n => cases e1
    · cases v with
      | none => rw [hfd, he]; cases u <;> rfl
      | some n => cases e2
    cases u with
    | none => cases e1
    | some n =>
      cases v with
      | none => cases e2
      | some w =>
        intro d
        refine ⟨append_ok (P := Tryz.prog) 2 32 rfl rfl rfl rfl rfl rfl rfl (by decide), rfl, ⟨r, fCs l, some ⟨d, 0, none⟩, 1, 1, fCs [(n, w)]⟩, rfl, rfl, ⟨hrr, rfl, λ_ h => fCs_one h, by dsimp only; omega, by dsimp only; omega, by simp⟩, ?_, ?_⟩
        · intro a ha
          cases ha
          exact Seg.rest (j := 14040) (by simp) (Seg.cells (λj u hj => by rw [fo_za]; exact hj))
        · rintro y ⟨h1, h2, -⟩
          rw [← fCs_app] at h1
          exact ⟨⟨by omega, by omega⟩, ⟨L, b, vs, cap, i + 1, l ++ [(n, w)], y⟩, ⟨hs, hL, hlt, hv, by dsimp only; rw [fo_la]; exact Nat.succ_le_succ hl, h1, he⟩, ⟨rfl, rfl, rfl, rfl, fo_tv⟩, Ent.pick [0, 1, 2] rfl rfl, by dsimp only; omega⟩
  · have hi2 : i = L.length := by omega
    rw [hi2, List.drop_length] at he
    rw [he] at hfd
    refine br_decide (λh2 => none' _ _ ?_ (by decide) (Ent.pick [2] rfl rfl)) (λh2 => ⟨.inl ⟨l, r⟩, ⟨?_, hrr⟩, rfl, Ent.pick [1, 2] rfl rfl⟩)
    · rw [hfd]
      show (bif decide (l.length > 32) then none else some l) = none
      rw [fo_dt (show l.length > 32 by omega)] <;> rfl
    · rw [hfd]
      show (bif decide (l.length > 32) then none else some l) = some l
      rw [fo_df (show ¬ l.length > 32 by omega)] <;> rfl
theorem fp_ok : fo_k 94 fpC := fo 59 Tryz.func94 (λ_ _ => [(4, 1, .c splC [] [500]), (6, 1, .q [.ex 0 .str]), (8, 1, .c ctC [] []), (9, 1, .c sdC [] []), (10, 1, .c sdC [] []), (13, 4, .n 14040), (13, 5, .o (apC 36 2 32) [1] [1])]) [] fpInv fo_i fo_o [] fp_vc
end
section
open Go
set_option maxHeartbeats 1000000
structure FnX where
  a : Option Addr
  n : Nat
  cap : Nat
  l : List Fld
  nm : ByteArray
abbrev fdC : Con where
  X := FnX
  Y := Unit
  args x := [.slice x.a x.n x.cap, .string x.nm]
  pre _ := []
  cond x := IsSrc 2 (fCs x.l) x.a x.n ∧ x.l.length ≤ 1048576
  rdc x F := Srcd F x.a (fCs x.l)
  rel _ _ := True
  val x _ := .returned (.tuple #[.string ((fndV x.nm x.l).getD ⟨#[]⟩), .bool (fndV x.nm x.l).isSome])
  post _ _ := []
  rmono _ _ _ hs h := h.sub hs
def fdInv (x : FnX) (F : Atom) : Nat → Option Inv := fun
  | 0 => some { X := Nat, P := λi => i ≤ x.n ∧ fndV x.nm x.l = fndV x.nm (x.l.drop i), mu := λi => x.n - i, lv := λi => [(1, .string x.nm), (8, .slice x.a x.n x.cap), (9, .int .i64 x.n), (10, .int .i64 i)], st := λ_ => [F] }
  | _ => none
def q265 (a : Nat) (x : FnX) := a ≤ x.n ∧ fndV x.nm x.l = fndV x.nm (List.drop a x.l)
abbrev q175 (z : IxQX) : List Value := [fo_vl (some ⟨z.b, z.o, none⟩) z.len z.cap, fo_vi z.n]
def T30 (oo : Oper) (aa : List Value) (k0 : IxQX → Prop) := QOpOk Tryz.prog oo (ixQ 2) ∧ ∃ (z : IxQX), aa = (q175 z) ∧ (0 ≤ z.n ∧ z.n < z.len) ∧ k0 z
abbrev q210 (d c : ByteArray) : List Value := [fo_vs d, fo_vs c]
abbrev q324 (F : Atom) (b : Nat) (d c : ByteArray) := [(0, F), (4020, fo_cl b (q210 d c) 36)]
theorem fd_vc (x : FnX) (F : Atom) (hc : fdC.cond x) (hr : fdC.rdc x F) :
 (∃(a : Nat), q265 a x ∧ (fo_vs x.nm = fo_vs x.nm ∧ fo_vl x.a x.n x.cap = fo_vl x.a x.n x.cap ∧ fo_vi ↑x.n = fo_vi ↑x.n ∧ fo_vi 0 = fo_vi ↑a ∧ True) ∧ Ent [(0, F)] [(0, F)]) ∧ fo_vA λ(g : Nat) _ => q265 g x → fo_Bd ((g : Int) < (x.n : Int)) (T30 (opIn Tryz.f45 3 0) [fo_vl x.a x.n x.cap, fo_vi ↑g] (λe => T25 F ⟨e.b, e.o + e.n.toNat * 2, none⟩ (λd => T25 F ⟨e.b, e.o + e.n.toNat * 2 + 1, none⟩ (λc => ∀(b : Nat), fo_sm b 0 ∧ fo_sm b 1 ∧ fo_sm b 0 ∧ Br (d.toList == x.nm.toList) (fo_sm b 1 ∧ Done fdC x F (fo_rt (tuple ⟨[fo_vs c, fo_vb true]⟩)) (q324 F b d c)) (fo_rI ((g : Int) + (1 : Int)) ∧ ∃(a : Nat), q265 a x ∧ (fo_vs x.nm = fo_vs x.nm ∧ fo_vl x.a x.n x.cap = fo_vl x.a x.n x.cap ∧ fo_vi ↑x.n = fo_vi ↑x.n ∧ fo_vi ((g : Int) + (1 : Int)) = fo_vi ↑a ∧ True) ∧ Ent (q324 F b d c) [(0, F)] ∧ x.n - a < x.n - g))))) (Done fdC x F q107 [(0, F)]) := by
  delta q265 q175 T30 T25 q210 q324 q107 fo_sm fo_rI fo_vi fo_vs fo_vb fo_vl fo_cl fo_Bd fo_rt fo_vA
  obtain ⟨a, n, cap, l, nm⟩ := x
  obtain ⟨hsrc, hl⟩ := hc
  have hr : Srcd F a (fCs l) := hr
  dsimp only at hsrc hl ⊢
  have hn := hsrc.len
  rw [fCs_length] at hn
  refine ⟨⟨0, ⟨fo_zl _, rfl⟩, ⟨rfl, rfl, rfl, rfl, fo_tv⟩, Ent.pick [0] rfl rfl⟩, ?_⟩
  rintro i js ⟨h1, h2⟩
  have fin : ∀ (S : St) (v : Option ByteArray), fndV nm l = v → Ent S (ofL [F]) → Done fdC ⟨a, n, cap, l, nm⟩ F (returned (tuple #[string (v.getD ⟨#[]⟩), bool v.isSome])) S := λS v e h => ⟨(), fo_tv, by subst e; rfl, h⟩
  refine br_decide (λh => ?_) (λh => fin _ none ?_ (Ent.pick [0] rfl rfl))
  · have hlt : i < l.length := by omega
    obtain ⟨b, o, rfl⟩ := hsrc.some (by omega)
    obtain ⟨q, hq⟩ : ∃ q, l[i]? = some q := ⟨l[i], fo_ge hlt⟩
    have hdrop : l.drop i = q :: l.drop (i + 1) := by
      rw [List.drop_eq_getElem_cons hlt]
      rw [fo_ge hlt] at hq
      rw [Option.some.inj hq]
    obtain ⟨g1, g2⟩ := fCs_get hq
    obtain ⟨q1, q2⟩ := q
    rw [hdrop, fndV] at h2
    refine ⟨ixq_ok 2 rfl rfl rfl rfl, ⟨b, o, n, cap, i⟩, rfl, ⟨by dsimp only; omega, h⟩, q1, ?_, q2, ?_, λd => ⟨⟨rfl, rfl⟩, ⟨rfl, rfl⟩, ⟨rfl, rfl⟩, br_intro (λe => ⟨⟨rfl, rfl⟩, fin _ (some q2) ?_ (Ent.pick [0] rfl rfl)⟩) (λe => ⟨⟨by omega, by omega⟩, i + 1, ⟨by omega, ?_⟩, ⟨rfl, rfl, rfl, rfl, fo_tv⟩, Ent.pick [0] rfl rfl, by omega⟩)⟩⟩
    · have := Srcd.look hr g1
      dsimp only
      rw [fo_tn, Nat.mul_comm]
      exact this
    · have := Srcd.look hr g2
      dsimp only
      rw [fo_tn, Nat.mul_comm i 2, Nat.add_assoc]
      exact this
    · rw [h2, e] <;> rfl
    · rw [h2, e] <;> rfl
  · rw [h2, List.drop_eq_nil_of_le (by omega)] <;> rfl
theorem fd_ok : fo_k 45 fdC := fo 21 Tryz.func45 (λ_ _ => [(3, 0, .qo (ixQ 2)), (3, 1, .q [.ex 0 .str, .ex 0 .str]), (3, 2, .n 4020), (3, 3, .w [.aq 4020, .aq 4020]), (4, 1, .q [.aq 4020]), (5, 1, .q [.aq 4020])]) [] fdInv fo_i fo_o [] fd_vc
theorem trmV_congr {p q : Nat → Bool} {s : ByteArray} (h : ∀ c, c < 256 → p c = q c) : trmV p s = trmV q s := by
  have h1 : ∀ f i, runV s p f i = runV s q f i := by
    intro f
    induction f with
    | zero => intro i; rfl
    | succ f ih => intro i; rw [runV, runV, h _ (bt_lt' s i), ih]
  have h2 : ∀ n, runR s p n = runR s q n := by
    intro n
    induction n with
    | zero => rfl
    | succ n ih => rw [runR, runR, h _ (bt_lt' s n), ih]
  unfold trmV run1
  rw [h1, h2]
theorem tabs_in {c : Nat} (h : c < 256) : inS' ⟨#[32, 9]⟩ c = tabs c := by
  have : ∀ d : Fin 256, inS' ⟨#[32, 9]⟩ d.val = tabs d.val := by decide +kernel
  exact this ⟨c, h⟩
theorem tabT_ok : (⟨#[32, 9]⟩ : ByteArray).size ≤ 1048576 ∧ 2 ≤ (⟨#[32, 9]⟩ : ByteArray).size ∧ asc ⟨#[32, 9]⟩ := by
  refine ⟨by decide, by decide, ?_⟩
  unfold asc
  decide
def rqV (r : Req) : Value := .agg #[.string r.m, .string r.t, .string r.h, .string r.y, .string r.b]
structure RqX where
  r : Req
def Req.ok (r : Req) : Prop := r.m.size ≤ 1048576 ∧ r.t.size ≤ 1048576 ∧ r.h.size ≤ 1048576 ∧ r.y.size ≤ 1048576 ∧ r.b.size ≤ 1048576
abbrev ifC : Con where
  X := RqX
  Y := Unit
  args x := [rqV x.r]
  pre _ := []
  cond x := x.r.ok
  rdc _ F := Gl F
  rel _ _ := True
  val x _ := .returned (.bool (frmV x.r))
  post _ _ := []
  rmono _ _ _ hs h := h.sub hs
abbrev q3 (x : RqX) : List Value := [fo_vs x.r.m, fo_vs x.r.t, fo_vs x.r.h, fo_vs x.r.y, fo_vs x.r.b]
def q229 (w0 : T2X) := w0.s.size ≤ 1048576 ∧ w0.t.size ≤ 1048576 ∧ 2 ≤ w0.t.size ∧ asc w0.t
def T31 := fo_C1 98 tmC (λw0 => q229 w0)
theorem if_vc (x : RqX) (F : Atom) (hc : ifC.cond x) (hr : ifC.rdc x F) :
 ∀(e : Nat), fo_sm e 3 ∧ T27 [fo_vs x.r.y, fo_vs ⟨#[59]⟩] (fo_aR [(0, F), (1000, fo_cl e (q3 x) 45)] []) (λd c => fo_sm e 0 ∧ Br (x.r.m.toList == (ByteArray.mk #[80, 79, 83, 84]).toList) (T31 [fo_vs (cutA d.s d.c), fo_vs ⟨#[32, 9]⟩] (λb a => Done ifC x F (fo_rt (fo_vb ((trmV (inS' b.t) b.s).toList == (ByteArray.mk #[97, 112, 112, 108, 105, 99, 97, 116, 105, 111, 110, 47, 120, 45, 119, 119, 119, 45, 102, 111, 114, 109, 45, 117, 114, 108, 101, 110, 99, 111, 100, 101, 100]).toList))) [(0, F), (1000, fo_cl e (q3 x) 45)])) (Done ifC x F q54 [(0, F), (1000, fo_cl e (q3 x) 45)])) := by
  delta T27 q3 q229 T31 q54 fo_aR fo_sm fo_C1 fo_C2 fo_vs fo_vb fo_cl fo_rt
  obtain ⟨r⟩ := x
  have hc : r.ok := hc
  obtain ⟨c1, c2, c3, c4, c5⟩ := hc
  dsimp only
  intro b
  have hca : (cutA r.y 59).size ≤ 1048576 := by unfold cutA; rw [fo_se]; omega
  refine ⟨⟨rfl, rfl⟩, ct_ok, rfl, ⟨r.y, 59⟩, rfl, rfl, ⟨c4, by dsimp only; omega⟩, Gl.rest (j := 0) (by simp) hr, λ_ _ => ⟨⟨rfl, rfl⟩, br_intro (λe => ⟨tm_ok, rfl, ⟨cutA r.y 59, ⟨#[32, 9]⟩⟩, rfl, rfl, ⟨hca, tabT_ok⟩, fo_tv, λ_ _ => ⟨(), fo_tv, ?_, Ent.pick [0] rfl rfl⟩⟩) (λe => ⟨(), fo_tv, ?_, Ent.pick [0] rfl rfl⟩)⟩⟩
  · show returned (.bool (bEq (trmV (inS' ⟨#[32, 9]⟩) (cutA r.y 59)) sForm)) = returned (.bool (bEq r.m sPost && bEq (trmV tabs (cutA r.y 59)) sForm))
    rw [show bEq r.m sPost = true from e, Bool.true_and, trmV_congr (λc hc => tabs_in hc)]
  · show returned (.bool false) = returned (.bool (bEq r.m sPost && bEq (trmV tabs (cutA r.y 59)) sForm))
    rw [show bEq r.m sPost = false from e, fo_fba]
theorem if_ok : fo_k 49 ifC := fo 21 Tryz.func49 (λ_ _ => [(0, 0, .n 1000), (1, 1, .q [.aq 1000]), (1, 2, .c ctC [] []), (2, 1, .q [.aq 1000]), (2, 5, .c tmC [] [])]) [] fo_i fo_i fo_o [] if_vc
end
section
open Go
set_option maxHeartbeats 1000000
def FpY.of (y : FpY) (s : ByteArray) : Prop := fdV s = some y.l ∧ IsRow 36 2 (fCs y.l) y.r
structure Fp2 where
  y : FpY
  e : Int
abbrev fp2C : Con where
  X := StX
  Y := Fp2
  args x := [.string x.s]
  pre _ := []
  cond x := x.s.size ≤ 1048576
  rdc _ F := Gl F
  rel x y := (y.e = 0 ∧ y.y.of x.s) ∨ (y.e ≠ 0 ∧ fdV x.s = none ∧ y.y.r = nilRow)
  val _ y := .returned (.tuple #[.slice y.y.r.a y.y.r.n y.y.r.cap, .int .i64 y.e])
  post _ y := [y.y.r.A]
  rmono _ _ _ hs h := h.sub hs
theorem fp2_ok : fo_k 94 fp2C := ⟨λx F I w hc hr hs => (fp_ok.h x F I w hc hr hs).mono λe w' ⟨y, J, h1, h2, h3, h4, h5⟩ => match y with
  | .inl y => ⟨⟨y, 0⟩, J, .inl ⟨rfl, h1⟩, h2, h3, h4, h5⟩
  | .inr e => ⟨⟨⟨[], nilRow⟩, e⟩, J, .inr ⟨h1.2, h1.1, rfl⟩, h2, h3, h4.pick [5, 0] rfl rfl, h5⟩⟩
theorem fdV_len {s : ByteArray} {l : List Fld} (h : fdV s = some l) : l.length ≤ 32 := by
  unfold fdV at h
  cases h1 : decide (s.size > 4096) with
  | true => rw [h1] at h; cases h
  | false =>
    rw [h1, fo_cf] at h
    cases h2 : fdL (pcV s) [] with
    | none => rw [h2] at h; cases h
    | some k =>
      rw [h2] at h
      cases h3 : decide (k.length > 32) with
      | true => dsimp only at h; rw [h3] at h; cases h
      | false => dsimp only at h; rw [h3] at h; cases h; have := fo_od0 h3; omega
theorem IsRow.none' {e : TypeId} {k : Nat} {cs : List Value} {r : Row} (h : IsRow e k cs r) (ha : r.a = none) : r.n = 0 ∧ r.cap = 0 := by
  cases h with
  | nil _ => exact ⟨rfl, rfl⟩
  | blk => cases ha
structure FoY where
  y : FpY
  ok : Bool
abbrev foC : Con where
  X := RqX
  Y := FoY
  args x := [rqV x.r, .string (cutB (tgV x.r) 63)]
  pre _ := []
  cond x := x.r.ok
  rdc _ F := Gl F
  rel x y := (y.ok = true ∧ flsV x.r = some y.y.l ∧ IsRow 36 2 (fCs y.y.l) y.y.r ∧ y.y.l.length ≤ 64) ∨ (y.ok = false ∧ flsV x.r = none ∧ y.y.r = nilRow)
  val _ y := .returned (.tuple #[.slice y.y.r.a y.y.r.n y.y.r.cap, .bool y.ok])
  post _ y := [y.y.r.A]
  rmono _ _ _ hs h := h.sub hs
def T32 := fo_C4 94 fp2C q237 (λ_ => Gl) (λw0 w2 => (w2.e = 0 ∧ w2.y.of w0.s ∨ w2.e ≠ (0 : Int) ∧ fdV w0.s = none ∧ w2.y.r = nilRow))
abbrev q168 := fo_rt (tuple ⟨[fo_vl none 0 0, fo_vb false]⟩)
abbrev q282 (F : Atom) (g : Fp2) (i : Nat) (x : RqX) := [(0, F), (500, g.y.r.A), (1000, fo_cl i (q3 x) 45)]
def T33 := fo_C2 49 ifC (λw0 => w0.r.ok) (λ_ => Gl)
def q169 (b : ApX) := ∀(a : Value), a ∈ b.ys → a.oneCell' = true
def q206 (b : ApX) (rr : Atom) := ∀(a : Addr), b.a = some a → Seg rr a b.ys
abbrev q345 : ApX → Atom → Prop := λb rr => q206 b rr
theorem flo_vc (x : RqX) (F : Atom) (hc : foC.cond x) (hr : foC.rdc x F) :
 ∀(i : Nat), T32 [fo_vs (cutB (tgV x.r) 63)] ([] : List Atom) (fo_aR [(0, F), (1000, fo_cl i (q3 x) 45)] []) (λh g => Br (g.e != 0) (Done foC x F q168 (q282 F g i x)) (fo_s5 i (T33 [agg ⟨q3 x⟩] (fo_aR (q282 F g i x) []) (λf e => Br (frmV f.r) (fo_sm i 4 ∧ T32 [fo_vs x.r.b] ([] : List Atom) (fo_aR (q282 F g i x) []) (λd c => Br (c.e != 0) (Done foC x F q168 [(0, F), (500, g.y.r.A), (501, c.y.r.A), (1000, fo_cl i (q3 x) 45)]) (fo_O4 (opIn Tryz.f44 8 2) (apC (36 : TypeId) 2 32) (λb => IsRow 36 2 b.cs b.r ∧ b.ys.length = b.m * 2 ∧ q169 b ∧ (b.r.n + b.m) * 32 ≤ 140737488355328 ∧ b.r.n + b.m ≤ 9223372036854775807 ∧ q261 b) q345 (λb a => IsRow 36 2 (b.cs ++ b.ys) a ∧ a.n = b.r.n + b.m ∧ (b.m = 0 → a = b.r)) [fo_vl g.y.r.a g.y.r.n g.y.r.cap, fo_vl c.y.r.a c.y.r.n c.y.r.cap] [g.y.r.A] (fo_aR [(0, F), (500, g.y.r.A), (501, c.y.r.A), (1000, fo_cl i (q3 x) 45)] [500]) (λb a => Done foC x F (fo_rt (tuple ⟨[fo_vl a.a a.n a.cap, fo_vb true]⟩)) [(0, F), (500, a.A), (501, c.y.r.A), (1000, fo_cl i (q3 x) 45)])))) (Done foC x F (fo_rt (tuple ⟨[fo_vl g.y.r.a g.y.r.n g.y.r.cap, fo_vb true]⟩)) (q282 F g i x)))))) := by
  delta q237 T32 q3 q168 q282 T33 q169 q261 q206 q345 fo_aR fo_sm fo_s5 fo_C2 fo_C4 fo_O4 fo_vs fo_vb fo_vl fo_cl fo_rt
  obtain ⟨r⟩ := x
  have hc : r.ok := hc
  have hr : Gl F := hr
  have hb : (cutB (tgV r) 63).size ≤ 1048576 := by
    have h1 : (tgV r).size ≤ r.t.size := by
      unfold tgV
      cases (decide (r.t.size > 0) && bt r.t 0 == 47)
      · exact fo_nr _
      · rw [fo_ct, fo_se]; omega
    have := hc.2.1
    unfold cutB
    rw [fo_se]
    omega
  dsimp only
  intro b
  refine ⟨fp2_ok, rfl, ⟨cutB (tgV r) 63⟩, rfl, rfl, hb, Gl.rest (j := 0) (by simp) hr, ?_⟩
  rintro ⟨⟨l, ro⟩, e⟩ hy
  have no : ∀ (S : St), flsV r = none → Ent S (ofL [.emp, F]) → Done foC ⟨r⟩ F (returned (tuple #[slice none 0 0, bool false])) S := λS h1 h2 => ⟨⟨⟨[], nilRow⟩, false⟩, .inr ⟨rfl, h1, rfl⟩, rfl, h2⟩
  dsimp only at hy ⊢
  rcases hy with ⟨rfl, h1, h2⟩ | ⟨h0, h1, _⟩
  rotate_left
  · refine br_intro (λ_ => no _ ?_ (Ent.pick [5, 0] rfl rfl)) (λq => absurd (by simpa using q) h0)
    unfold flsV
    rw [h1]
  refine br_intro (λq => by cases q) (λ_ => ?_)
  dsimp only at h1 h2
  have hl1 := fdV_len h1
  refine ⟨⟨rfl, rfl⟩, ⟨rfl, rfl⟩, ⟨rfl, rfl⟩, ⟨rfl, rfl⟩, ⟨rfl, rfl⟩, if_ok, rfl, ⟨r⟩, rfl, rfl, hc, Gl.rest (j := 0) (by simp) hr, λ_ _ => br_intro (λq => ?_) (λq => ?_)⟩
  rotate_left
  · have hfl : flsV r = some l := by unfold flsV; rw [h1]; dsimp only; rw [show frmV r = false from q] <;> rfl
    exact ⟨⟨⟨l, ro⟩, true⟩, .inl ⟨rfl, hfl, h2, by dsimp only; omega⟩, rfl, Ent.pick [500, 0] rfl rfl⟩
  have hq : frmV r = true := q
  refine ⟨⟨rfl, rfl⟩, fp2_ok, rfl, ⟨r.b⟩, rfl, rfl, hc.2.2.2.2, Gl.rest (j := 0) (by simp) hr, ?_⟩
  rintro ⟨⟨m, ro2⟩, e2⟩ hy
  dsimp only at hy ⊢
  rcases hy with ⟨rfl, k1, k2⟩ | ⟨h0, k1, _⟩
  rotate_left
  · refine br_intro (λ_ => no _ ?_ (Ent.pick [5, 0] rfl rfl)) (λq => absurd (by simpa using q) h0)
    unfold flsV
    rw [h1]
    dsimp only
    rw [hq, k1] <;> rfl
  refine br_intro (λq => by cases q) (λ_ => ?_)
  dsimp only at k1 k2
  have hfl : flsV r = some (l ++ m) := by unfold flsV; rw [h1]; dsimp only; rw [hq, k1] <;> rfl
  have hl2 := fdV_len k1
  have n1 := h2.len
  have n2 := k2.len
  rw [fCs_length] at n1 n2
  refine ⟨append_ok (P := Tryz.prog) 2 32 rfl rfl rfl rfl rfl rfl rfl (by decide), rfl, ⟨ro, fCs l, ro2.a, ro2.n, ro2.cap, fCs m⟩, rfl, rfl, ⟨h2, (fCs_length m).trans n2, λ_ h => fCs_one h, by dsimp only; omega, by dsimp only; omega, λh => k2.none' h⟩, λa ha => Seg.rest (j := 501) (by simp) (k2.srcd a ha), ?_⟩
  rintro y ⟨g1, g2, -⟩
  rw [← fCs_app] at g1
  exact ⟨⟨⟨l ++ m, y⟩, true⟩, .inl ⟨rfl, hfl, g1, by dsimp only; rw [fo_la]; omega⟩, rfl, Ent.pick [500, 0] rfl rfl⟩
theorem flo_ok : fo_k 44 foC := fo 31 Tryz.func44 (λ_ _ => [(0, 0, .n 1000), (1, 1, .c fp2C [] [500]), (4, 0, .q [.aq 1000, .aq 1000, .aq 1000, .aq 1000, .aq 1000]), (4, 1, .c ifC [] []), (5, 1, .q [.aq 1000]), (5, 2, .c fp2C [] [501]), (8, 2, .o (apC 36 2 32) [500] [500])]) [] fo_i fo_i fo_o [] flo_vc
end
end Go.Proofs.YtjdabjmjldiodaaGreatDoor
namespace Go.Proofs
section
open Go.Shelf
def Tryz.lays196_ren : Go.Shelf.Ren := ⟨λ| 196 => 47 | 259 => 96 | n => n, λ| 9 => 9 | 4 => 4 | 3 => 3 | 5 => 5 | 12 => 12 | 119 => 153 | 0 => 0 | 46 => 135 | 139 => 156 | 138 => 155 | 53 => 209 | n => n, λ| 3 => 0 | 4 => 1 | n => n⟩
theorem Tryz.lays196 : Go.Proofs.Lays.n196 Tryz.prog Tryz.lays196_ren := {
  mixed := by kernel_rfl
  f196 := Tryz.func47.trans (congrArg some (by kernel_rfl))
  f259 := Tryz.func96.trans (congrArg some (by kernel_rfl))
  t0 := Tryz.underlying0
  a0 := Tryz.isAgg0
  z0 := Tryz.sizeOf0
  v0 := Tryz.zeroValue0
  t3 := Tryz.underlying3
  a3 := Tryz.isAgg3
  z3 := Tryz.sizeOf3
  v3 := Tryz.zeroValue3
  t4 := Tryz.underlying4
  a4 := Tryz.isAgg4
  z4 := Tryz.sizeOf4
  v4 := Tryz.zeroValue4
  t5 := Tryz.underlying5
  a5 := Tryz.isAgg5
  z5 := Tryz.sizeOf5
  v5 := Tryz.zeroValue5
  t9 := Tryz.underlying9
  a9 := Tryz.isAgg9
  z9 := Tryz.sizeOf9
  v9 := Tryz.zeroValue9
  t12 := Tryz.underlying12
  a12 := Tryz.isAgg12
  z12 := Tryz.sizeOf12
  v12 := Tryz.zeroValue12
  t46 := Tryz.underlying135
  a46 := Tryz.isAgg135
  z46 := Tryz.sizeOf135
  v46 := Tryz.zeroValue135
  t53 := Tryz.underlying209
  a53 := Tryz.isAgg209
  z53 := Tryz.sizeOf209
  v53 := Tryz.zeroValue209
  t119 := Tryz.underlying153
  a119 := Tryz.isAgg153
  z119 := Tryz.sizeOf153
  t138 := Tryz.underlying155
  a138 := Tryz.isAgg155
  z138 := Tryz.sizeOf155
  v138 := Tryz.zeroValue155
  t139 := Tryz.underlying156
  a139 := Tryz.isAgg156
  z139 := Tryz.sizeOf156
  v139 := Tryz.zeroValue156
  g3 := by kernel_rfl
  g4 := by kernel_rfl }
open Go.RowKit in

theorem Tryz.utf8_ValidString (s : ByteArray) (w : World) (hs : s.size ≤ 9223372036854775807) (hT : Lib.Utf8Tabs 0 1 w) :
    Calls Tryz.prog 47 #[.string s] w λe w' => e = .returned (.bool (Lib.validD s.data.toList)) ∧ Below w.heap.size w w' := Any.utf8_ValidString Tryz.lays196 s w hs hT
end
end Go.Proofs
namespace Go.Proofs.YtjdabjmjldiodaaGreatDoor
set_option maxRecDepth 100000
open Go.Value (int slice string bool pointer agg tuple func float iface nilIface)
open Go.IntKind (i64 u8 u64 i32 u32 u16 i8 i16)
open Go.FloatKind (f64)
open Go.Ending (returned panicked)
section
open Go
set_option maxHeartbeats 1000000
set_option maxRecDepth 20000
structure IrX where
  t : ByteArray
  c : Nat
def escI (T : ByteArray) (c : Nat) : Int := if c < 128 then Lib.indexByte T.data.toList (UInt8.ofNat c) else -1
abbrev irgC : Con where
  X := IrX
  Y := Unit
  args x := [.string x.t, .int .i32 x.c]
  pre _ := []
  cond x := Sc x.c ∧ asc x.t
  rdc _ _ := True
  rel _ _ := True
  val x _ := .returned (.int .i64 (escI x.t x.c))
  post _ _ := []
theorem bt_asc {T : ByteArray} (h : asc T) (k : Nat) : bt T k < 128 := by
  unfold bt
  cases e : T.data[k]? with
  | none => show (0 : Nat) < 128; omega
  | some b => exact h b (by rw [← Array.getElem?_toList] at e; exact fo_mg e)
theorem dec_asc {T : ByteArray} (h : asc T) {p : Nat} (hp : p < T.size) : (Utf8.decode T p).1 < 128 ∧ (Utf8.decode T p).2 = 1 := by
  rw [Lib.decode_at, get_bt, get_bt, get_bt, get_bt]
  unfold Lib.decodeN
  rw [if_pos (bt_asc h p)]
  exact ⟨bt_asc h p, rfl⟩
theorem index_none : ∀ (l : List UInt8) (b : UInt8), (∀ a ∈ l, a ≠ b) → Lib.indexByte l b = -1
  | [], _, _ => rfl
  | a :: l, b, h => by
    rw [Lib.indexByte, index_none l b λa ha => h a (fo_mm _ ha)]
    have : (a == b) = false := fo_bf.2 (h a (fo_mc ..))
    rw [this] <;> rfl
structure IrgS where
  b : Nat
  p : Nat
def irgInv (x : IrX) (F : Atom) : Nat → Option Inv := fun
  | 1 => some { X := Unit, P := λ_ => True, mu := λ_ => 0, lv := λ_ => [(0, .string x.t), (1, .int .i32 x.c), (7, .string (Utf8.encode x.c)), (8, .int .i64 ((Utf8.encode x.c).size - 1)), (9, .int .i64 ((Utf8.encode x.c).size - 1))], st := λ_ => [F] }
  | 9 => some { X := IrgS, P := λ_ => x.c = 65533, mu := λd => x.t.size - d.p, lv := λd => [(0, .string x.t), (1, .int .i32 x.c), (175, .pointer (some ⟨d.b, 0, none⟩))], st := λd => [F, .obj d.b (.stringIter x.t d.p)] }
  | _ => none
def T34 (oo : Oper) (aa : List Value) (pp : List Atom) (k0 : NtX → Unit → Prop) (k1 : NtX → Unit → Prop) := OpOk Tryz.prog oo nxC ∧ true = true ∧ ∃ (z : NtX), aa = [fo_vp (some ⟨z.b, 0, none⟩)] ∧ pp = [fo_ob z.b (Obj.stringIter z.s z.p)] ∧ True ∧ True ∧ (∀ (u0 : Unit), z.p.succ.le z.s.size → k0 z u0) ∧ ∀ (u1 : Unit), (z.p < z.s.size → False) → k1 z u1
abbrev q145 (F : Atom) (c : NtX) := [(0, F), (1, fo_ob c.b (Obj.stringIter c.s (c.p + (Utf8.decode c.s c.p).snd)))]
abbrev q173 := fo_rt (fo_vi (-1))
def q202 (x : IrX) := 0 ≤ (↑(Utf8.encode (x.c : Int)).size : Int) - 1 ∧ (↑(Utf8.encode (x.c : Int)).size : Int) - 1 < (↑(Utf8.encode (x.c : Int)).size : Int)
theorem irg_vc (x : IrX) (F : Atom) (hc : irgC.cond x) (hr : irgC.rdc x F) :
 fo_Bd ((x.c : Int) < 128) (T14 [fo_vs x.t, fo_vc (u8.wrap (x.c : Int))] (λb a => Done irgC x F (fo_rt (q104 b)) [(0, F)])) (Br ((x.c : Int) == 65533) (∀(f : Nat), (∃(a : IrgS), x.c = 65533 ∧ (fo_vs x.t = fo_vs x.t ∧ fo_vj ↑x.c = fo_vj ↑x.c ∧ fo_vp (q17 f) = fo_vp (some ⟨a.b, 0, none⟩) ∧ True) ∧ Ent [(0, F), (37010, fo_ob f (Obj.stringIter x.t 0))] [(0, F), (1, fo_ob a.b (Obj.stringIter x.t a.p))]) ∧ fo_vA λ(e : IrgS) _ => x.c = 65533 → T34 ⟨some 176, Op.next (Operand.tmp 175) true, 0, "strings.go:116", ⟨[]⟩, none⟩ [fo_vp (some ⟨e.b, 0, none⟩)] [fo_ob e.b (Obj.stringIter x.t e.p)] (λc b => Br ((↑(Utf8.decode c.s c.p).fst : Int) == 65533) (Done irgC x F (fo_rt (fo_vi ↑c.p)) (q145 F c)) (∃(a : IrgS), x.c = 65533 ∧ (fo_vs x.t = fo_vs x.t ∧ fo_vj ↑x.c = fo_vj ↑x.c ∧ fo_vp (some ⟨e.b, 0, none⟩) = fo_vp (some ⟨a.b, 0, none⟩) ∧ True) ∧ Ent (q145 F c) [(0, F), (1, fo_ob a.b (Obj.stringIter x.t a.p))] ∧ x.t.size - a.p < x.t.size - e.p)) (λc a => Done irgC x F q173 [(0, F), (1, fo_ob c.b (Obj.stringIter c.s c.p))])) (fo_C1 196 vrC (λg => Sc g.c) [fo_vj ↑x.c] (λg f => QOpOk Tryz.prog (opIn Tryz.f147 1 1) r2sC ∧ ∃(e : RnX), [fo_vj ↑x.c] = [fo_vj e.c] ∧ True ∧ fo_rI ((↑(Utf8.encode e.c).size : Int) - 1) ∧ (∃(a : Unit), True ∧ (fo_vs x.t = fo_vs x.t ∧ fo_vj ↑x.c = fo_vj ↑x.c ∧ fo_vs (Utf8.encode e.c) = fo_vs (Utf8.encode (x.c : Int)) ∧ fo_vi ((↑(Utf8.encode e.c).size : Int) - 1) = fo_vi ((↑(Utf8.encode (x.c : Int)).size : Int) - 1) ∧ fo_vi ((↑(Utf8.encode e.c).size : Int) - 1) = fo_vi ((↑(Utf8.encode (x.c : Int)).size : Int) - 1) ∧ True) ∧ Ent [(0, F)] [(0, F)]) ∧ fo_vA λ(d : Unit) _ => True → fo_Bd ((↑(Utf8.encode (x.c : Int)).size : Int) - 1 < (x.t.size : Int)) (true = true ∧ (0 ≤ (↑(Utf8.encode (x.c : Int)).size : Int) - 1 ∧ (↑(Utf8.encode (x.c : Int)).size : Int) - 1 < (x.t.size : Int)) ∧ q202 x ∧ Br (byteAt x.t ((↑(Utf8.encode (x.c : Int)).size : Int) - 1) != byteAt (Utf8.encode (x.c : Int)) ((↑(Utf8.encode (x.c : Int)).size : Int) - 1)) (true = true ∧ fo_rI ((↑(Utf8.encode (x.c : Int)).size : Int) - 1 + (1 : Int)) ∧ (0 ≤ (↑(Utf8.encode (x.c : Int)).size : Int) - 1 + (1 : Int) ∧ (↑(Utf8.encode (x.c : Int)).size : Int) - 1 + 1 ≤ (x.t.size : Int) ∧ (x.t.size : Int) ≤ (x.t.size : Int)) ∧ q202 x ∧ T14 [fo_vs (x.t.extract ((↑(Utf8.encode (x.c : Int)).size : Int) - 1 + (1 : Int)).toNat (x.t.size : Int).toNat), fo_vc (byteAt (Utf8.encode (x.c : Int)) ((↑(Utf8.encode (x.c : Int)).size : Int) - 1))] (λb a => fo_Bd (Lib.indexByte b.s.data.toList (UInt8.ofNat b.c) < 0) (Done irgC x F q173 [(0, F)]) (fo_rI (Lib.indexByte b.s.data.toList (UInt8.ofNat b.c) + 1) ∧ fo_rI ((↑(Utf8.encode (x.c : Int)).size : Int) - 1 + (Lib.indexByte b.s.data.toList (UInt8.ofNat b.c) + 1)) ∧ False))) False) (Done irgC x F q173 [(0, F)])))) := by
  delta T14 q104 q17 T34 q145 q173 q202 fo_rI fo_C1 fo_vi fo_vc fo_vj fo_vs fo_vp fo_ob fo_Bd fo_rt fo_vA
  obtain ⟨t, c⟩ := x
  obtain ⟨hc, hasc⟩ := hc
  dsimp only at hc hasc ⊢
  have hi : ¬ c < 128 → escI t c = -1 := λh => by unfold escI; rw [if_neg h]
  refine br_decide (λh => ?_) (λh => br_intro (λh2 => ?_) (λh2 => ?_))
  · have h : c < 128 := by omega
    rw [wrap8, Nat.mod_eq_of_lt (by omega)]
    exact ⟨ib_ok, rfl, ⟨t, c⟩, rfl, rfl, by dsimp only; omega, fo_tv, λ_ _ => ⟨(), fo_tv, retI (by unfold escI; rw [if_pos h]), Ent.pick [0] rfl rfl⟩⟩
  · have h2 : c = 65533 := by have := beq_iff_eq.1 h2; omega
    intro b
    refine ⟨⟨⟨b, 0⟩, h2, ⟨rfl, rfl, rfl, fo_tv⟩, Ent.pick [0, 37010] rfl rfl⟩, ?_⟩
    rintro ⟨b, p⟩ js _
    refine ⟨nx_ok rfl, rfl, ⟨b, t, p⟩, rfl, rfl, fo_tv, fo_tv, λ_ hp => ?_, λ_ _ => ⟨(), fo_tv, retI (hi (by omega)).symm, Ent.pick [0] rfl rfl⟩⟩
    have hp : p < t.size := hp
    obtain ⟨d1, d2⟩ := dec_asc hasc hp
    refine br_intro (λe => ?_) (λ_ => ⟨⟨b, p + 1⟩, h2, ⟨rfl, rfl, rfl, fo_tv⟩, Ent.pick [0, 1] rfl (by dsimp only; rw [d2] <;> rfl), by dsimp only; omega⟩)
    have e : (((Utf8.decode t p).1 : Nat) : Int) = 65533 := beq_iff_eq.1 e
    omega
  · have h : 128 ≤ c := by omega
    obtain ⟨z1, z2⟩ := enc_high hc h
    have z3 := enc_size hc
    refine ⟨vr_ok, rfl, ⟨c⟩, rfl, rfl, hc, fo_tv, λ_ _ => ⟨r2s_ok rfl rfl rfl, ⟨c⟩, rfl, fo_tv, ⟨by dsimp only; omega, by dsimp only; omega⟩, ⟨(), fo_tv, ⟨rfl, rfl, rfl, rfl, rfl, fo_tv⟩, Ent.pick [0] rfl rfl⟩, λ_ js _ => ?_⟩⟩
    generalize Utf8.encode (c : Int) = en at z1 z2 z3 ⊢
    refine br_intro (λh3 => ?_) (λh3 => ⟨(), fo_tv, retI (hi (by omega)).symm, Ent.pick [0] rfl rfl⟩)
    have h3 := fo_od1 h3
    have hk : ((en.size : Int) - 1).toNat = en.size - 1 := by omega
    have hb := z2 (en.size - 1) (by omega)
    have hb2 := bt_lt en (en.size - 1)
    have ha := bt_asc hasc (en.size - 1)
    refine ⟨rfl, ⟨by omega, h3⟩, ⟨by omega, by omega⟩, br_intro (λ_ => ?_) (λe => ?_)⟩
    · refine ⟨rfl, ⟨by omega, by omega⟩, ⟨by omega, by omega, by omega⟩, ⟨by omega, by omega⟩, ib_ok, rfl, ⟨t.extract ((en.size : Int) - 1 + 1).toNat (t.size : Int).toNat, bt en (en.size - 1)⟩, by rw [byteAt_bt, hk], rfl, hb2, fo_tv, λ_ _ => ?_⟩
      have e : Lib.indexByte (t.extract ((en.size : Int) - 1 + 1).toNat (t.size : Int).toNat).data.toList (UInt8.ofNat (bt en (en.size - 1))) = -1 := by
        apply index_none
        intro a hm
        rw [fo_tn, ext_drop] at hm
        have hm := hasc a (List.mem_of_mem_drop hm)
        intro e
        rw [e] at hm
        simp at hm
        omega
      dsimp only
      rw [e]
      exact ⟨(), fo_tv, retI (hi (by omega)).symm, Ent.pick [0] rfl rfl⟩
    · rw [byteAt_bt, byteAt_bt, hk] at e
      simp at e
      omega
theorem irg_ok : fo_k 147 irgC := fo 187 Tryz.func147 (λ_ _ => [(35, 2, .q []), (35, 3, .c ibC [] []), (43, 1, .c vrC [] []), (1, 1, .qo r2sC), (7, 7, .c ibC [] []), (37, 1, .n 37010), (38, 0, .o nxC [1] [1])]) [] irgInv fo_i fo_o [] irg_vc
end
section
open Go
set_option maxHeartbeats 1000000
structure VsX where
  s : ByteArray
abbrev vsC : Con where
  X := VsX
  Y := Unit
  args x := [.string x.s]
  pre _ := []
  cond x := x.s.size ≤ 1048576
  rdc _ F := Utf F
  rel _ _ := True
  val x _ := .returned (.bool (okV x.s))
  post _ _ := []
  rmono _ _ _ hs h := h.sub hs
theorem vs_ok : fo_k 47 vsC := FnOk.ofBelow vsC (λ_ => rfl) (λ_ _ => ()) (λ_ _ => fo_tv) (λ_ _ => rfl) λx F I w hc hr hs => by
  have hc : x.s.size ≤ 1048576 := hc
  refine (Go.Proofs.Tryz.utf8_ValidString x.s w (by omega) ⟨λc hc => hs.lookF (hr.first c hc), λi hi => ⟨hs.lookF (hr.accLo i hi), hs.lookF (hr.accHi i hi)⟩⟩).mono ?_
  rintro e w' ⟨he, hb⟩
  exact ⟨by rw [he, valid_okV] <;> rfl, hb⟩
def hasV (s t : ByteArray) : Bool := decide (run1 s (λb => !inS' t b) 0 < s.size)
theorem has_true {s t : ByteArray} {j : Nat} (hj : j < s.size) (h : inS' t (bt s j) = true) : hasV s t = true := by
  refine fo_dt ?_
  have h1 := rv_spec s (λb => !inS' t b) (s.size + 1) 0 (fo_zl _) (by omega)
  rcases Nat.lt_or_ge j (run1 s (λb => !inS' t b) 0) with h2 | h2
  · have := h1.1 j (fo_zl _) h2
    rw [h] at this
    cases this
  · omega
theorem has_false {s t : ByteArray} (h : ∀ j, j < s.size → inS' t (bt s j) = false) : hasV s t = false := by
  refine fo_df ?_
  have : run1 s (λb => !inS' t b) 0 = s.size := rv_eq _ _ _ _ _ (fo_zl _) (fo_nr _) (by omega) (λj _ hj => by rw [h j hj] <;> rfl) (λh => absurd h (Nat.lt_irrefl _))
  omega
theorem inS_high {t : ByteArray} (h : asc t) {b : Nat} (hb : 128 ≤ b) (hb2 : b < 256) : inS' t b = false := by
  cases e : inS' t b with
  | false => rfl
  | true =>
    have := h _ (List.contains_iff_mem.1 e)
    rw [UInt8.toNat_ofNat', Nat.mod_eq_of_lt hb2] at this
    omega
theorem decode_at' (s : ByteArray) (p : Nat) (hp : p < s.size) : (bt s p < 128 ∧ Utf8.decode s p = (bt s p, 1)) ∨ (128 ≤ (Utf8.decode s p).1 ∧ Sc (Utf8.decode s p).1 ∧ 1 ≤ (Utf8.decode s p).2 ∧ p + (Utf8.decode s p).2 ≤ s.size ∧ ∀ j, p ≤ j → j < p + (Utf8.decode s p).2 → 128 ≤ bt s j) := by
  rw [Lib.decode_at, get_bt, get_bt, get_bt, get_bt]
  by_cases h : bt s p < 128
  · refine .inl ⟨h, ?_⟩
    unfold Lib.decodeN
    rw [if_pos h]
  · refine .inr ?_
    have h0 := bt_lt s p
    have hn : s.size - p ≥ 1 := by omega
    have key : ∀ c n : Nat, Lib.decodeN (s.size - p) (bt s p) (bt s (p + 1)) (bt s (p + 2)) (bt s (p + 3)) = (c, n) → 128 ≤ c ∧ Sc c ∧ 1 ≤ n ∧ p + n ≤ s.size ∧ (n = 1 ∨ (n = 2 ∧ 128 ≤ bt s (p + 1)) ∨ (n = 3 ∧ 128 ≤ bt s (p + 1) ∧ 128 ≤ bt s (p + 2)) ∨ (n = 4 ∧ 128 ≤ bt s (p + 1) ∧ 128 ≤ bt s (p + 2) ∧ 128 ≤ bt s (p + 3))) := by
      intro c n e
      unfold Lib.decodeN at e
      rw [if_neg h] at e
      unfold Sc
      repeat' split at e
      all_goals (cases e; omega)
    revert key
    generalize Lib.decodeN (s.size - p) (bt s p) (bt s (p + 1)) (bt s (p + 2)) (bt s (p + 3)) = d
    intro key
    obtain ⟨c, n⟩ := d
    obtain ⟨k1, k2, k3, k4, k5⟩ := key c n rfl
    dsimp only
    refine ⟨k1, k2, k3, k4, λj h1 h2 => ?_⟩
    have hb0 : 128 ≤ bt s p := by omega
    rcases k5 with e | ⟨e, q1⟩ | ⟨e, q1, q2⟩ | ⟨e, q1, q2, q3⟩ <;> subst e
    · rw [show j = p by omega]; exact hb0
    · rcases (show j = p ∨ j = p + 1 by omega) with e | e <;> rw [e]
      · exact hb0
      · exact q1
    · rcases (show j = p ∨ j = p + 1 ∨ j = p + 2 by omega) with e | e | e <;> rw [e]
      · exact hb0
      · exact q1
      · exact q2
    · rcases (show j = p ∨ j = p + 1 ∨ j = p + 2 ∨ j = p + 3 by omega) with e | e | e | e <;> rw [e]
      · exact hb0
      · exact q1
      · exact q2
      · exact q3
theorem ib_mem (l : List UInt8) (u : UInt8) : decide (Lib.indexByte l u ≥ 0) = l.contains u := by
  induction l with
  | nil => rfl
  | cons b l ih =>
    rw [Lib.indexByte, List.contains_cons]
    have hge := Lib.indexByte_ge l u
    cases hb : (b == u) with
    | true =>
      have : (u == b) = true := by rw [Bool.beq_comm]; exact hb
      rw [if_pos rfl, this] <;> rfl
    | false =>
      have : (u == b) = false := by rw [Bool.beq_comm]; exact hb
      rw [if_neg (by decide), this, Bool.false_or, ← ih]
      by_cases h : Lib.indexByte l u = -1
      · rw [h] <;> rfl
      · rw [if_neg (by simpa using h)]
        rw [fo_dt (show Lib.indexByte l u + 1 ≥ 0 by omega), fo_dt (show Lib.indexByte l u ≥ 0 by omega)]
theorem esc_in {t : ByteArray} {c : Nat} (h : c < 128) : decide (escI t c ≥ 0) = inS' t c := by
  unfold escI inS'
  rw [if_pos h, ib_mem]
theorem esc_out {t : ByteArray} {c : Nat} (h : 128 ≤ c) : decide (escI t c ≥ 0) = false := by
  unfold escI
  rw [if_neg (by omega)] <;> rfl
abbrev iaC : Con where
  X := T2X
  Y := Int
  args x := [.string x.s, .string x.t]
  pre _ := []
  cond x := x.s.size ≤ 1048576 ∧ x.t.size ≤ 1048576 ∧ 2 ≤ x.t.size ∧ asc x.t
  rdc _ _ := True
  rel x y := decide (y ≥ 0) = hasV x.s x.t
  val _ y := .returned (.int .i64 y)
  post _ _ := []
structure Ia2 where
  b : Nat
  i : Nat
def iaInv (x : T2X) (F : Atom) : Nat → Option Inv := fun
  | 0 => some { X := Ia2, P := λd => d.i ≤ x.s.size ∧ ∀ j : Nat, j < d.i → inS' x.t (bt x.s j) = false, mu := λd => x.s.size - d.i, lv := λd => [(0, .string x.s), (6, .pointer (some ⟨d.b, 0, none⟩)), (8, .int .i64 d.i)], st := λd => [F, .cells d.b (setL x.t) 205] }
  | 2 => some { X := Ia2, P := λd => d.i ≤ x.s.size ∧ ∀ j : Nat, j < d.i → inS' x.t (bt x.s j) = false, mu := λd => x.s.size - d.i, lv := λd => [(1, .string x.t), (45, .pointer (some ⟨d.b, 0, none⟩))], st := λd => [F, .obj d.b (.stringIter x.s d.i)] }
  | _ => none
def iaCut (x : T2X) (F : Atom) : Nat → Option Inv := fun
  | 8 => some { X := Unit, P := λ_ => True, mu := λ_ => 0, lv := λ_ => [(0, .string x.s), (1, .string x.t)], st := λ_ => [F] }
  | _ => none
structure I8X where
  n : Int
abbrev suC : Con where
  X := I8X
  Y := Unit
  args x := [.int .i64 x.n]
  pre _ := []
  cond _ := True
  rdc _ _ := True
  rel _ _ := True
  val x _ := .returned (.bool (decide (x.n > 8)))
  post _ _ := []
theorem su_vc (x : I8X) (F : Atom) (hc : suC.cond x) (hr : suC.rdc x F) :
 Done suC x F (fo_rt (fo_vb (decide (x.n > 8)))) [(0, F)] := by
  delta fo_vb fo_rt
  exact ⟨(), fo_tv, rfl, Ent.pick [0] rfl rfl⟩
theorem su_ok : fo_k 148 suC := fo 5 Tryz.func148 (λ_ _ => []) [] fo_i fo_i fo_o [] su_vc
def q105 (b : Ia2) (x : T2X) := b.i ≤ x.s.size ∧ ∀(a : Nat), a < b.i → inS' x.t (bt x.s a) = false
abbrev q215 (b : Ia2) : Option Addr := some ⟨b.b, 0, none⟩
abbrev q204 (F : Atom) (b : Ia2) (x : T2X) := [(0, F), (1, fo_cl b.b (setL x.t) 205)]
def T35 := fo_C1 147 irgC (λw0 => Sc w0.c ∧ asc w0.t)
theorem ia_vc (x : T2X) (F : Atom) (hc : iaC.cond x) (hr : iaC.rdc x F) :
 Br (x.t.toList == q59.toList) (Done iaC x F q173 [(0, F)]) (Br ((x.t.size : Int) == 1) (q318 x ∧ ((-2147483648 : Int) ≤ byteAt x.t (0 : Int) ∧ byteAt x.t (0 : Int) ≤ (2147483647 : Int)) ∧ fo_Bd (byteAt x.t (0 : Int) ≥ (128 : Int)) False False) (∃(a : Unit), True ∧ (fo_vs x.s = fo_vs x.s ∧ fo_vs x.t = fo_vs x.t ∧ True) ∧ Ent [(0, F)] [(0, F)]) ∧ fo_vA λ(p : Unit) _ => True → fo_C0 148 suC [fo_vi ↑x.s.size] (λn m => fo_Bd (n.n > 8) (T21 [fo_vs x.t] (λl k => T22 ⟨some 6, Op.alloc 205, 0, "strings.go:198", ⟨[]⟩, none⟩ ([] : List Value) (λj i => T23 (opIn Tryz.f95 9 6) [fo_vp (q322 i), agg ⟨setL l.t⟩] [fo_cl i.b i.vs 205] (λh g => (∃(b : Ia2), q105 b x ∧ (fo_vs x.s = fo_vs x.s ∧ fo_vp (q322 i) = fo_vp (q215 b) ∧ fo_vi 0 = fo_vi ↑b.i ∧ True) ∧ Ent [(0, F), (10050, fo_cl h.b h.cs h.t)] (q204 F b x)) ∧ fo_vA λ(f : Ia2) _ => q105 f x → fo_Bd ((f.i : Int) < (x.s.size : Int)) ((0 ≤ (f.i : Int) ∧ (f.i : Int) < (x.s.size : Int)) ∧ T19 [fo_vp (q215 f), fo_vc (byteAt x.s (f.i : Int))] (fo_aR (q204 F f x) []) (λd c => Br (d.p d.c) (Done iaC x F (fo_rt (fo_vi ↑f.i)) (q204 F f x)) (fo_rI ((f.i : Int) + 1) ∧ ∃(b : Ia2), q105 b x ∧ (fo_vs x.s = fo_vs x.s ∧ fo_vp (q215 f) = fo_vp (q215 b) ∧ fo_vi ((f.i : Int) + 1) = fo_vi ↑b.i ∧ True) ∧ Ent (q204 F f x) (q204 F b x) ∧ x.s.size - b.i < x.s.size - f.i))) (Done iaC x F q173 (q204 F f x)))))) (∀(i : Nat), (∃(b : Ia2), q105 b x ∧ (fo_vs x.t = fo_vs x.t ∧ fo_vp (q17 i) = fo_vp (q215 b) ∧ True) ∧ Ent [(0, F), (18010, fo_ob i (Obj.stringIter x.s 0))] [(0, F), (1, fo_ob b.b (Obj.stringIter x.s b.i))]) ∧ fo_vA λ(h : Ia2) _ => q105 h x → T34 ⟨some 46, Op.next (Operand.tmp 45) true, 0, "strings.go:207", ⟨[]⟩, none⟩ [fo_vp (q215 h)] [fo_ob h.b (Obj.stringIter x.s h.i)] (λf e => T35 [fo_vs x.t, fo_vj (↑(Utf8.decode f.s f.p).fst : Int)] (λd c => fo_Bd (escI d.t d.c ≥ 0) (Done iaC x F (fo_rt (fo_vi ↑f.p)) (q145 F f)) (∃(b : Ia2), q105 b x ∧ (fo_vs x.t = fo_vs x.t ∧ fo_vp (q215 h) = fo_vp (q215 b) ∧ True) ∧ Ent (q145 F f) [(0, F), (1, fo_ob b.b (Obj.stringIter x.s b.i))] ∧ x.s.size - b.i < x.s.size - h.i))) (λf a => Done iaC x F q173 [(0, F), (1, fo_ob f.b (Obj.stringIter f.s f.p))])))) := by
  delta q59 q173 q318 T21 q76 T22 T23 q322 q105 q215 q204 T19 q17 T34 T35 q145 fo_aR fo_rI fo_C0 fo_C1 fo_C2 fo_O3 fo_O5 fo_vi fo_vc fo_vj fo_vs fo_vp fo_cl fo_ob fo_Bd fo_rt fo_vA
  obtain ⟨s, t⟩ := x
  obtain ⟨hs, ht, ht2, hasc⟩ := hc
  dsimp only at hs ht ht2 hasc ⊢
  have yes : ∀ (S : St) (y : Int), y ≥ 0 → hasV s t = true → Ent S (ofL [F]) → Done iaC ⟨s, t⟩ F (returned (int i64 y)) S := λS y h1 h2 h3 => ⟨y, by show decide (y ≥ 0) = hasV s t; rw [h2]; exact fo_dt h1, rfl, h3⟩
  have no : ∀ (S : St), hasV s t = false → Ent S (ofL [F]) → Done iaC ⟨s, t⟩ F (returned (int i64 (-1))) S := λS h2 h3 => ⟨(-1 : Int), by show decide ((-1 : Int) ≥ 0) = hasV s t; rw [h2] <;> rfl, rfl, h3⟩
  refine br_intro (λe => ?_) (λ_ => ⟨br_intro (λe => ?_) (λ_ => ⟨(), fo_tv, ⟨rfl, rfl, fo_tv⟩, Ent.pick [0] rfl rfl⟩), ?_⟩)
  · rw [str_e0] at e
    have e : t.size = 0 := by simpa using e
    omega
  · have e : (t.size : Int) = 1 := by simpa using e
    omega
  intro _ js _
  refine ⟨su_ok, rfl, ⟨s.size⟩, rfl, rfl, fo_tv, fo_tv, λ_ _ => br_decide (λh8 => ?_) (λh8 => λb => ?_)⟩
  · refine ⟨mks_ok, rfl, ⟨t⟩, rfl, rfl, ⟨ht, hasc⟩, fo_tv, λ_ _ => ⟨al_ok rfl rfl rfl (by kernel_rfl), rfl, (), rfl, rfl, fo_tv, fo_tv, λy hy => ⟨sw_ok rfl rfl rfl, rfl, ⟨y.b, y.vs, _, setL t⟩, rfl, rfl, ⟨⟨hy, setL_len _⟩, setL_one _⟩, fo_tv, λ_ _ => ⟨⟨⟨y.b, 0⟩, ⟨fo_zl _, λj hj => absurd hj (Nat.not_lt_zero _)⟩, ⟨rfl, rfl, rfl, fo_tv⟩, Ent.pick [0, 10050] rfl rfl⟩, ?_⟩⟩⟩⟩
    rintro ⟨b, i⟩ js ⟨h1, h2⟩
    dsimp only at h1 h2 ⊢
    have e0 : byteAt s (i : Int) = (bt s i : Int) := by rw [byteAt_bt, fo_tn]
    rw [e0]
    refine br_decide (λh => ⟨⟨by omega, h⟩, cn_ok, rfl, ⟨b, inS' t, bt s i⟩, rfl, rfl, bt_lt _ _, λc hc => Look.rest (j := 1) (by simp) (Look.cells (setL_at t hc)), λ_ _ => br_intro (λe => yes _ _ (by omega) (has_true (j := i) (by omega) e) (Ent.pick [0] rfl rfl)) (λe => ⟨⟨by omega, by omega⟩, ⟨b, i + 1⟩, ⟨by dsimp only; omega, λj hj => ?_⟩, ⟨rfl, rfl, rfl, fo_tv⟩, Ent.pick [0, 1] rfl rfl, by dsimp only; omega⟩)⟩) (λh => no _ (has_false λj hj => h2 j (by omega)) (Ent.pick [0] rfl rfl))
    dsimp only at hj
    by_cases hji : j = i
    · subst hji; exact e
    · exact h2 j (by omega)
  · refine ⟨⟨⟨b, 0⟩, ⟨fo_zl _, λj hj => absurd hj (Nat.not_lt_zero _)⟩, ⟨rfl, rfl, fo_tv⟩, Ent.pick [0, 18010] rfl rfl⟩, ?_⟩
    rintro ⟨b, p⟩ js ⟨h1, h2⟩
    dsimp only at h1 h2 ⊢
    refine ⟨nx_ok rfl, rfl, ⟨b, s, p⟩, rfl, rfl, fo_tv, fo_tv, λ_ hp => ?_, λ_ hp => no _ (has_false λj hj => h2 j ?_) (Ent.pick [0] rfl rfl)⟩
    rotate_left
    · have hp : ¬ p < s.size := hp
      omega
    have hp : p < s.size := hp
    dsimp only
    have hd := decode_at' s p hp
    revert hd
    generalize Utf8.decode s p = d
    obtain ⟨c, n⟩ := d
    dsimp only
    intro hd
    have hsc : Sc c := by
      rcases hd with ⟨g1, g2⟩ | ⟨_, g, _⟩
      · cases g2; unfold Sc; omega
      · exact g
    refine ⟨irg_ok, rfl, ⟨t, c⟩, rfl, rfl, ⟨hsc, hasc⟩, fo_tv, λ_ _ => br_intro (λe => ?_) (λe => ?_)⟩
    · have e : decide (escI t c ≥ 0) = true := e
      rcases hd with ⟨g1, g2⟩ | ⟨g1, _⟩
      · cases g2
        rw [esc_in g1] at e
        exact yes _ _ (by omega) (has_true hp e) (Ent.pick [0] rfl rfl)
      · rw [esc_out g1] at e
        cases e
    · have e : decide (escI t c ≥ 0) = false := e
      have hn : p + n ≤ s.size ∧ 1 ≤ n ∧ ∀ j, p ≤ j → j < p + n → inS' t (bt s j) = false := by
        rcases hd with ⟨g1, g2⟩ | ⟨g1, _, g3, g4, g5⟩
        · cases g2
          rw [esc_in g1] at e
          refine ⟨hp, fo_nr _, λj a b => ?_⟩
          rw [show j = p by omega]
          exact e
        · exact ⟨g4, g3, λj a b => inS_high hasc (g5 j a b) (bt_lt _ _)⟩
      refine ⟨⟨b, p + n⟩, ⟨hn.1, λj hj => ?_⟩, ⟨rfl, rfl, fo_tv⟩, Ent.pick [0, 1] rfl rfl, by have := hn.2.1; dsimp only; omega⟩
      dsimp only at hj
      rcases Nat.lt_or_ge j p with h | h
      · exact h2 j h
      · exact hn.2.2 j h hj
theorem ia_ok : fo_k 95 iaC := fo 55 Tryz.func95 (λ_ _ => [(8, 2, .c suC [] []), (9, 1, .c mksC [] []), (9, 5, .o (alC 205 256) [] [10050]), (9, 6, .o (swC 256) [10050] [10050]), (14, 3, .c cnC [] []), (17, 1, .n 18010), (18, 0, .o nxC [1] [1]), (20, 2, .c irgC [] [])]) [(7, 2, OH.q [])] iaInv iaCut fo_o [] ia_vc
abbrev caC : Con where
  X := T2X
  Y := Unit
  args x := [.string x.s, .string x.t]
  pre _ := []
  cond x := x.s.size ≤ 1048576 ∧ x.t.size ≤ 1048576 ∧ 2 ≤ x.t.size ∧ asc x.t
  rdc _ _ := True
  rel _ _ := True
  val x _ := .returned (.bool (hasV x.s x.t))
  post _ _ := []
theorem ca_vc (x : T2X) (F : Atom) (hc : caC.cond x) (hr : caC.rdc x F) :
 fo_C5 95 iaC (λb => q229 b) (λb a => decide (a ≥ 0) = hasV b.s b.t) [fo_vs x.s, fo_vs x.t] (λb a => Done caC x F (fo_rt (fo_vb (decide (a ≥ 0)))) [(0, F)]) := by
  delta q229 fo_C5 fo_vs fo_vb fo_rt
  exact ⟨ia_ok, rfl, x, rfl, rfl, hc, fo_tv, λy hy => ⟨(), fo_tv, retB hy, Ent.pick [0] rfl rfl⟩⟩
theorem ca_ok : fo_k 46 caC := fo 9 Tryz.func46 (λ_ _ => [(1, 2, .c iaC [] [])]) [] fo_i fo_i fo_o [] ca_vc
end
end Go.Proofs.YtjdabjmjldiodaaGreatDoor
