/- A part of the proof that pennantlaw23.BasicHears answers true at every input. -/
import Derived.Test.YtjdabjmjldiodaaGreatDoorPHal
set_option linter.all false
namespace Go.Proofs.YtjdabjmjldiodaaGreatDoor
set_option maxRecDepth 100000
open Go.Value (int slice string bool pointer agg tuple func float iface nilIface)
open Go.IntKind (i64 u8 u64 i32 u32 u16 i8 i16)
open Go.FloatKind (f64)
open Go.Ending (returned panicked)
section
open Go
set_option maxHeartbeats 1000000
abbrev plI : Con := inC noG [.string ⟨#[0, 49]⟩] (.tuple #[.string ⟨#[49]⟩, .bool true])
theorem plI_ok : fo_k 224 plI := ⟨λ_ F I w _ _ hs => (pln_ok.h ⟨⟨#[0, 49]⟩⟩ F I w (by decide : 2 ≤ 8388608) trivial hs).mono λ_ _ ⟨y, J, k1, k2, k3, k4, k5⟩ => ⟨y, J, k1, k2.trans (by kernel_rfl), k3, k4, k5⟩⟩
abbrev pfI : Con := inC gN [.string ⟨#[49]⟩, .int .i64 64] (.tuple #[.float .f64 4607182418800017408, .nilIface])
abbrev dcI : Con := inC noG [.string ⟨#[49]⟩] (.bool true)
abbrev nuI : Con := inC gN [.string ⟨#[0, 49]⟩] (.float .f64 4607182418800017408)
def q328 := (0 : Int) ≤ (0 : Int) ∧ 0 < (↑(ByteArray.mk #[49]).size : Int)
theorem nui_vc (x : PUnit) (F : Atom) (hc : nuI.cond x) (hr : nuI.rdc x F) :
 fo_C2 224 plI q80 q57 [fo_vs ⟨#[0, 49]⟩] (q112 F) (λf e => q328 ∧ q328 ∧ fo_C2 228 dcI q80 q57 [fo_vs ⟨#[49]⟩] (q112 F) (λd c => fo_C2 227 pfI q80 (λ_ rr => gN.ok rr) [fo_vs ⟨#[49]⟩, fo_vi 64] (q112 F) (λb a => Done nuI x F (fo_rt (float f64 4607182418800017408)) [(0, F)]))) := by
  delta q80 q57 q112 q328 fo_aR fo_C2 fo_vi fo_vs fo_rt
  have hT : gN.ok F := hr
  exact ⟨plI_ok, rfl, (), rfl, rfl, fo_tv, noG_ok, λ_ _ => ⟨by decide, by decide, dcI_ok, rfl, (), rfl, rfl, fo_tv, noG_ok, λ_ _ => ⟨pfI_ok, rfl, (), rfl, rfl, fo_tv, hT.rest (j := 0) (by simp), λ_ _ => ⟨(), fo_tv, rfl, Ent.pick [0] rfl rfl⟩⟩⟩⟩
theorem nui_ok : fo_k 184 nuI := fo 75 Tryz.func184 (λ_ _ => [(1, 1, .c plI [] []), (12, 4, .c dcI [] []), (14, 1, .c pfI [] [])]) [] fo_i fo_i fo_o [] nui_vc
def K1 : Ctx where
  nv _ := 4607182418800017408
  tv _ := ⟨#[]⟩
  rd := gN.ok
  mono h hs := λb i v e => (h b i v e).sub hs
  rest hj h := Glb.ok.rest h hj
theorem nui_K : fo_k 184 (nn1C K1) := ⟨λx F I w hc hr hs => by
  obtain ⟨s⟩ := x
  have hc : s = ⟨#[0, 49]⟩ := hc
  subst hc
  exact nui_ok.h () F I w trivial hr hs⟩
def E0 : EscF := λ_ _ => none
theorem esc_E0 : fo_k 180 (esfC E0) := ⟨λx F I w hc hr hs => by
  obtain ⟨-, -, h⟩ := hc
  cases h⟩
def k1 : RdK := ⟨K1, E0⟩
theorem k1_ok : k1.ok := ⟨esc_E0, nui_K⟩
structure HhX where
  b : Nat
  n : Int
  l : KVs
  k : ByteArray
theorem hid {f : FuncId} {C D : Con} (h : fo_k f C) (b : D.X → Nat) (n : D.X → Int) (l : D.X → KVs) (hpre : ∀ x, D.pre x = [hoA (b x) (n x) (l x)]) (g : D.X → HoY → C.X) (hp : ∀ x y, C.pre (g x y) = [])
    (ha : ∀ x y, C.args (g x y) = D.args x) (hc : ∀ x y, D.cond x → C.cond (g x y)) (hr : ∀ x y F, D.cond x → HoIn y.a (b x) (l x) F → C.rdc (g x y) F)
    (hv : ∀ x y z, D.cond x → C.rel (g x y) z → ∃ u, D.rel x u ∧ C.val (g x y) z = D.val x u ∧ C.post (g x y) z = [] ∧ D.post x u = [hoA (b x) (n x) (l x)]) : fo_k f D := ⟨λx F I w hcx _ hs => by
  rw [hpre] at hs
  obtain ⟨y, hy, hs⟩ := ex_open hs
  have h1 := h.h (g x y) (.pred (rest (ofL (hoB (b x) (n x) (l x) y ++ [F])) [])) I w (hc x y hcx) (hr x y _ hcx (hoIn_of F hy)) (by rw [hp]; exact hs.part (touch := []) List.nodup_nil)
  rw [ha] at h1
  refine h1.mono λe w' ⟨z, J, k1, k2, k3, k4, k5⟩ => ?_
  obtain ⟨u, v1, v2, v3, v4⟩ := hv x y z hcx k1
  rw [v3] at k4
  have k4 := Sat.join (post := []) (touch := []) (out := []) k4
  refine ⟨u, J, v1, k2.trans v2, k3, ?_, k5⟩
  rw [v4]
  exact ex_shut hy k4⟩
abbrev kihC : Con where
  X := HhX
  Y := Unit
  args x := [.pointer (some ⟨x.b, 0, none⟩), .int .i64 0]
  pre x := [hoA x.b x.n x.l]
  cond _ := True
  rdc _ _ := True
  rel _ _ := True
  val _ _ := .returned (.int .i64 1)
  post x _ := [hoA x.b x.n x.l]
theorem kih_ok : fo_k 34 kihC :=
  hid (D := kihC) ki_ok (λx => x.b) (λx => x.n) (λx => x.l) (λ_ => rfl) (λx y => ⟨y.a, x.b, x.l, ⟨#[]⟩⟩) (λ_ _ => rfl) (λ_ _ => rfl) (λ_ _ _ => fo_tv) (λ_ _ _ _ h => h) λ_ _ _ _ _ => ⟨(), fo_tv, rfl, rfl, rfl⟩
abbrev owhC : Con where
  X := HhX
  Y := LpY
  args x := [.pointer (some ⟨x.b, 0, none⟩), .int .i64 0, .string x.k]
  pre x := [hoA x.b x.n x.l]
  cond _ := True
  rdc _ _ := True
  rel x y := y = lpOf (getV x.k x.l)
  val _ y := .returned (.tuple #[.agg #[.int .i64 y.k, .float .f64 y.f, .string y.s, .int .i64 0], .bool y.ok])
  post x _ := [hoA x.b x.n x.l]
theorem owh_ok : fo_k 36 owhC :=
  hid (D := owhC) ow_ok (λx => x.b) (λx => x.n) (λx => x.l) (λ_ => rfl) (λx y => ⟨y.a, x.b, x.l, x.k⟩) (λ_ _ => rfl) (λ_ _ => rfl) (λ_ _ _ => fo_tv) (λ_ _ _ _ h => h) λ_ _ z _ h => ⟨z, h, rfl, rfl, rfl⟩
abbrev kehC : Con where
  X := HhX
  Y := Row
  args x := [.pointer (some ⟨x.b, 0, none⟩), .int .i64 0]
  pre x := [hoA x.b x.n x.l]
  cond x := x.l.length ≤ 10000
  rdc _ _ := True
  rel x y := IsRow 9 1 (ksL x.l) y ∧ y.n = x.l.length
  val _ y := .returned (.slice y.a y.n y.cap)
  post x y := [hoA x.b x.n x.l, y.A]
theorem keh_ok : fo_k 35 kehC := ⟨λx F I w hc _ hs => by
  obtain ⟨b, n, l, k⟩ := x
  obtain ⟨y, hy, hs⟩ := ex_open hs
  refine (ke_ok.h ⟨y.a, b, l, ⟨#[]⟩⟩ (.pred (rest (ofL (hoB b n l y ++ [F])) [])) I w hc (hoIn_of F hy) (hs.part (touch := []) List.nodup_nil)).mono λe w' ⟨z, J, k1, k2, k3, k4, k5⟩ => ?_
  have k4 := Sat.join (post := [z.A]) (touch := []) (out := [6]) k4
  have k6 : Sat J (ofL (hoB b n l y ++ [.pred (rest (ofL (hoB b n l y ++ [F, z.A])) [0, 1, 2, 3, 4])])) w' := (k4 : Sat J (ofL (hoB b n l y ++ [F, z.A])) w').part (touch := [0, 1, 2, 3, 4]) (by decide)
  have k7 := ex_shut (R := hoR l) (B := hoB b n l) hy k6
  have k8 := Sat.join (post := [hoA b n l]) (touch := [0, 1, 2, 3, 4]) (out := [0]) k7
  exact ⟨z, J, k1, k2, k3, k8.pick [0, 6, 5] rfl rfl, k5⟩⟩
abbrev tdnC : Con where
  X := B1
  Y := Unit
  args x := [.pointer (some ⟨x.b, 0, none⟩), n1V]
  pre _ := []
  cond _ := True
  rdc _ F := Utf F ∧ gT.ok F
  rel _ _ := True
  val x _ := .returned (.tuple #[.string ⟨#[49]⟩, .bool true])
  post _ _ := []
  rmono _ _ _ hs h := ⟨h.1.sub hs, λb i v e => (h.2 b i v e).sub hs⟩
theorem tdn_ok : fo_k 50 tdnC := ⟨λx F I w _ hr hs =>
  (td_ok.h _ F I w (Tg.good.nm x.b) ⟨hr.1, hr.2, Tg.good.nm x.b⟩ hs).mono λ_ _ ⟨y, J, k1, k2, k3, k4, k5⟩ => ⟨y, J, k1, k2.trans (by kernel_rfl), k3, k4, k5⟩⟩
abbrev bvnC : Con where
  X := B1
  Y := Unit
  args x := [.pointer (some ⟨x.b, 0, none⟩), n1V]
  pre _ := []
  cond _ := True
  rdc _ F := Utf F ∧ gT.ok F
  rel _ _ := True
  val x _ := .returned (.string ⟨#[49]⟩)
  post _ _ := []
  rmono _ _ _ hs h := ⟨h.1.sub hs, λb i v e => (h.2 b i v e).sub hs⟩
theorem bvn_vc (x : B1) (F : Atom) (hc : bvnC.cond x) (hr : bvnC.rdc x F) :
 ∀(c : Nat), fo_sm c 0 ∧ fo_sm c 0 ∧ fo_sm c 1 ∧ fo_sm c 2 ∧ fo_sm c 3 ∧ fo_C2 50 tdnC q378 (λ_ rr => Utf rr ∧ gT.ok rr) [fo_vp (some ⟨x.b, 0, none⟩), agg ⟨q27⟩] (fo_aR [(0, F), (1000, fo_cl c q27 30)] []) (λb a => Done bvnC x F (fo_rt (fo_vs ⟨#[49]⟩)) [(0, F), (1000, fo_cl c q27 30)]) := by
  delta q378 q27 fo_aR fo_sm fo_C2 fo_vi fo_vs fo_vp fo_cl fo_rt
  obtain ⟨hu, hT⟩ := hr
  have hu : Utf F := hu
  have hT : gT.ok F := hT
  exact λb => ⟨⟨rfl, rfl⟩, ⟨rfl, rfl⟩, ⟨rfl, rfl⟩, ⟨rfl, rfl⟩, ⟨rfl, rfl⟩, tdn_ok, rfl, ⟨x.b⟩, rfl, rfl, fo_tv, ⟨Utf.rest (j := 0) (by simp) hu, hT.rest (j := 0) (by simp)⟩, λ_ _ => ⟨(), fo_tv, rfl, Ent.pick [0] rfl rfl⟩⟩
theorem bvn_ok : fo_k 38 bvnC := fo 26 Tryz.func38 (λ_ _ => [(0, 0, .n 1000), (4, 1, .q [.aq 1000, .aq 1000, .aq 1000, .aq 1000]), (4, 2, .c tdnC [] [])]) [(1, 1, OH.q [LH.aq (1000 : Nat)])] fo_i fo_i fo_o [] bvn_vc
end
section
open Go
set_option maxHeartbeats 1000000
def uNm : ByteArray := ⟨#[95, 115, 99, 120, 109, 108, 101, 118, 101, 110, 116, 110, 97, 109, 101]⟩
def uFm : ByteArray := ⟨#[97, 112, 112, 108, 105, 99, 97, 116, 105, 111, 110, 47, 120, 45, 119, 119, 119, 45, 102, 111, 114, 109, 45, 117, 114, 108, 101, 110, 99, 111, 100, 101, 100]⟩
def uBd : ByteArray := ⟨#[95, 115, 99, 120, 109, 108, 101, 118, 101, 110, 116, 110, 97, 109, 101, 61, 101, 38, 97, 61, 49]⟩
def uJs : ByteArray := ⟨#[123, 34, 97, 34, 58, 49, 125]⟩
def uWd : ByteArray := ⟨#[0, 123, 0, 34, 0, 97, 0, 34, 0, 58, 0, 49, 0, 125]⟩
def uKv : KVs := [(⟨#[0, 97]⟩, .n 4607182418800017408)]
abbrev it81 : Con := inC noG [.int .i64 81] (.string ⟨#[56, 49]⟩)
theorem it81_ok : fo_k 31 it81 := FnOk.sim (by kernel_rfl) 8 12 (by kernel_rfl)
abbrev wdI : Con where
  X := Unit
  Y := Int
  args _ := [.string uJs]
  pre _ := []
  cond _ := True
  rdc _ F := Utf F
  rel _ _ := True
  val _ y := .returned (.tuple #[.string uWd, .int .i64 y, .int .i64 0])
  post _ _ := []
  rmono _ _ _ hs h := h.sub hs
theorem uWd_eq : wideV uJs = uWd := by decide +kernel
theorem wdI_ok : fo_k 32 wdI := ⟨λ_ F I w _ hr hs =>
  (wds_ok.h ⟨uJs⟩ F I w (by decide : 7 ≤ 1048576) hr hs).mono λe w' ⟨y, J, k1, k2, k3, k4, k5⟩ => ⟨y.1, J, fo_tv, by
    have h : y.2 = 0 := k1 (by rw [show (WdX.mk uJs).s = uJs from rfl, uWd_eq]; decide)
    rw [k2]
    show returned (.tuple #[.string (wideV uJs), .int .i64 y.1, .int .i64 y.2]) = .returned (.tuple #[.string uWd, .int .i64 y.1, .int .i64 0])
    rw [uWd_eq, h], k3, k4, k5⟩⟩
abbrev pzI : Con where
  X := B1
  Y := Int
  args x := [.pointer (some ⟨x.b, 0, none⟩), .string uWd]
  pre x := [ho0 x.b 10000]
  cond _ := True
  rdc _ F := gN.ok F ∧ Utf F
  rel _ _ := True
  val _ _ := .returned (.tuple #[.agg #[.int .i64 5, .float .f64 0, .string ⟨#[]⟩, .int .i64 0], .int .i64 0])
  post x y := [hoA x.b y uKv]
  rmono _ _ _ hs h := ⟨λb i v e => (h.1 b i v e).sub hs, h.2.sub hs⟩
theorem pz_at : ObAt k1 uWd 1 uKv 7 :=
  .last 1 4 6 ⟨#[0, 97]⟩ (.n 4607182418800017408) (by decide +kernel) (by decide +kernel) (by decide) (by decide +kernel) (.n (by decide +kernel) (by decide +kernel) (by decide +kernel) (by decide +kernel) (by decide +kernel)) (by decide) (by decide +kernel) (by decide)
theorem pzI_x (b : Nat) : (PzX.mk k1 b uWd uKv 7).ok where
  w := (by decide : 14 ≤ 1048576)
  k := k1_ok
  o := (by decide +kernel : jpk uWd 0 = 123)
  a := pz_at
  j := (by decide : 7 ≤ 1048576)
  e := (by decide +kernel : jpk uWd 7 = -1)
  l := (by decide : 1 ≤ 9990)
  v p hp := by
    rcases List.mem_singleton.1 hp with rfl
    exact ⟨by decide, by unfold Pv.ok; trivial⟩
theorem pzI_ok : fo_k 33 pzI := ⟨λx F I w _ hr hs => by
  refine (prz_ok.h ⟨k1, x.b, uWd, uKv, 7⟩ F I w (pzI_x x.b) hr hs).mono λe w' ⟨y, J, _, k2, k3, k4, k5⟩ => ⟨y, J, fo_tv, k2, k3, ?_, k5⟩
  exact k4⟩
abbrev kiI : Con where
  X := HhX
  Y := Unit
  args x := [.pointer (some ⟨x.b, 0, none⟩), .int .i64 0]
  pre x := [hoA x.b x.n uKv]
  cond _ := True
  rdc _ _ := True
  rel _ _ := True
  val _ _ := .returned (.int .i64 1)
  post x _ := [hoA x.b x.n uKv]
theorem kiI_ok : fo_k 34 kiI := ⟨λx F I w _ _ hs => kih_ok.h ⟨x.b, x.n, uKv, ⟨#[]⟩⟩ F I w trivial trivial hs⟩
abbrev owI : Con where
  X := HhX
  Y := Unit
  args x := [.pointer (some ⟨x.b, 0, none⟩), .int .i64 0, .string ⟨#[0, 97]⟩]
  pre x := [hoA x.b x.n uKv]
  cond _ := True
  rdc _ _ := True
  rel _ _ := True
  val _ _ := .returned (.tuple #[.agg #[.int .i64 3, .float .f64 4607182418800017408, .string ⟨#[]⟩, .int .i64 0], .bool true])
  post x _ := [hoA x.b x.n uKv]
theorem owI_ok : fo_k 36 owI := ⟨λx F I w _ _ hs =>
  (owh_ok.h ⟨x.b, x.n, uKv, ⟨#[0, 97]⟩⟩ F I w trivial trivial hs).mono λe w' ⟨y, J, k1, k2, k3, k4, k5⟩ => ⟨(), J, fo_tv, by
    have h : y = lpOf (getV ⟨#[0, 97]⟩ uKv) := k1
    subst h
    exact k2.trans (by kernel_rfl), k3, k4, k5⟩⟩
abbrev keI : Con where
  X := HhX
  Y := Row
  args x := [.pointer (some ⟨x.b, 0, none⟩), .int .i64 0]
  pre x := [hoA x.b x.n uKv]
  cond _ := True
  rdc _ _ := True
  rel _ y := IsRow 9 1 [.string ⟨#[0, 97]⟩] y ∧ y.n = 1
  val _ y := .returned (.slice y.a y.n y.cap)
  post x y := [hoA x.b x.n uKv, y.A]
theorem keI_ok : fo_k 35 keI := ⟨λx F I w _ _ hs => keh_ok.h ⟨x.b, x.n, uKv, ⟨#[]⟩⟩ F I w (by decide : 1 ≤ 10000) trivial hs⟩
abbrev nrI : Con := inC noG [.string ⟨#[0, 97]⟩] (.tuple #[.string ⟨#[97]⟩, .int .i64 0])
theorem nrI_ok : fo_k 37 nrI := ⟨λ_ F I w _ _ hs =>
  (nrn_ok.h ⟨⟨#[0, 97]⟩⟩ F I w (by decide : 2 ≤ 1048576) trivial hs).mono λe w' ⟨y, J, k1, k2, k3, k4, k5⟩ => ⟨y, J, k1, k2.trans (by kernel_rfl), k3, k4, k5⟩⟩
def uFl : List Fld := [(uNm, ⟨#[101]⟩), (⟨#[97]⟩, ⟨#[49]⟩)]
abbrev fwI : Con where
  X := Row
  Y := Unit
  args x := [.slice x.a x.n x.cap]
  pre _ := []
  cond x := IsSrc 2 (fCs uFl) x.a x.n ∧ x.n ≤ 1000000
  rdc x F := Srcd F x.a (fCs uFl)
  rel _ _ := True
  val _ _ := .returned (.tuple #[.string uBd, .int .i64 0])
  post _ _ := []
  rmono _ _ _ hs h := h.sub hs
theorem fwI_ok : fo_k 39 fwI := ⟨λx F I w hc hr hs => by
  refine (fw_ok.h ⟨uFl, x.a, x.n, x.cap⟩ F I w ⟨hc.1, hc.2, ?_⟩ hr hs).mono λe w' ⟨y, J, k1, k2, k3, k4, k5⟩ => ⟨y, J, k1, k2.trans (by kernel_rfl), k3, k4, k5⟩
  intro f hf
  rcases List.mem_cons.1 hf with rfl | hf
  · exact ⟨by decide, by decide⟩
  · rcases List.mem_singleton.1 hf with rfl
    exact ⟨by decide, by decide⟩⟩
def uQt : ByteArray := wqT ⟨⟨#[80, 79, 83, 84]⟩, ⟨#[47, 120]⟩, ⟨#[104, 58, 56, 49]⟩, uFm, uBd, ⟨⟨#[]⟩, 0, ⟨#[]⟩, [], 0⟩⟩
def uIx : Nat := (Lib.index uQt.data.toList sEnd.data.toList).toNat
def uLs : List ByteArray := spW sCRLF (uQt.extract 0 uIx)
def uR : RdX := ⟨uQt, uIx, uLs.headD ⟨#[]⟩, uLs.tail, 21⟩
def uQ : WqX := ⟨⟨#[80, 79, 83, 84]⟩, ⟨#[47, 120]⟩, ⟨#[104, 58, 56, 49]⟩, uFm, uBd, uR⟩
theorem rdx_ok {s l0 : ByteArray} {i n : Nat} {ls : List ByteArray} (h1 : s.size ≤ 1048576) (h2 : Lib.index s.data.toList sEnd.data.toList = i) (h3 : i + 4 ≤ 4096) (h4 : ls.length ≤ 1000000) (h5 : spW sCRLF (s.extract 0 i) = l0 :: ls) (h6 : (rqlV l0).2.2 = true) (h7 : ∀ z ∈ ls, atV z 58 0 < z.size ∧ tokV (cutA z 58) = true ∧ thV (hvV z) = true) (h8 : (ctnV nmCL (RdX.mk s i l0 ls n).fs).1 = 1) (h9 : (ctnV nmHo (RdX.mk s i l0 ls n).fs).1 = 1) (ha : (ctnV nmTE (RdX.mk s i l0 ls n).fs).1 = 0) (hb : AuOk (ctnV nmCL (RdX.mk s i l0 ls n).fs).2) (hc : trmV (inS' sDig) (ctnV nmCL (RdX.mk s i l0 ls n).fs).2 = ⟨#[]⟩) (hd : atN (ctnV nmCL (RdX.mk s i l0 ls n).fs).2 (ctnV nmCL (RdX.mk s i l0 ls n).fs).2.size = n) (he : n ≤ 4096) (hf : i + 4 + n ≤ s.size) : (RdX.mk s i l0 ls n).ok := ⟨h1, h2, h3, h4, h5, h6, h7, h8, h9, ha, hb, hc, hd, he, hf⟩
theorem uq_s : uQt.size ≤ 1048576 := by decide +kernel
theorem uq_i : Lib.index uQt.data.toList sEnd.data.toList = uIx := by decide +kernel
theorem uq_2 : uIx + 4 ≤ 4096 := by decide +kernel
theorem uq_ll : uLs.tail.length ≤ 1000000 := by decide +kernel
theorem uq_l : uLs = uLs.headD ⟨#[]⟩ :: uLs.tail := by decide +kernel
theorem uq_r : (rqlV (uLs.headD ⟨#[]⟩)).2.2 = true := by decide +kernel
theorem uq_f : ∀ z ∈ uLs.tail, atV z 58 0 < z.size ∧ tokV (cutA z 58) = true ∧ thV (hvV z) = true := by decide +kernel
theorem uq_c1 : (ctnV nmCL uR.fs).1 = 1 := by decide +kernel
theorem uq_c2 : (ctnV nmHo uR.fs).1 = 1 := by decide +kernel
theorem uq_c3 : (ctnV nmTE uR.fs).1 = 0 := by decide +kernel
theorem uq_v : 1 ≤ (ctnV nmCL uR.fs).2.size ∧ (ctnV nmCL uR.fs).2.size ≤ 9 ∧ ∀ i : Nat, i < (ctnV nmCL uR.fs).2.size → 48 ≤ byteAt (ctnV nmCL uR.fs).2 i ∧ byteAt (ctnV nmCL uR.fs).2 i ≤ 57 := by decide +kernel
theorem uq_v2 : trmV (inS' sDig) (ctnV nmCL uR.fs).2 = ⟨#[]⟩ := by decide +kernel
theorem uq_v3 : atN (ctnV nmCL uR.fs).2 (ctnV nmCL uR.fs).2.size = (21 : Nat) := by decide +kernel
theorem uq_e : uIx + 4 + 21 = uQt.size := by decide +kernel
theorem uQ_x : uR.ok := rdx_ok uq_s uq_i uq_2 uq_ll uq_l uq_r uq_f uq_c1 uq_c2 uq_c3 ⟨uq_v.1, uq_v.2.1, uq_v.2.2⟩ uq_v2 uq_v3 (by decide) (Nat.le_of_eq uq_e)
theorem uQ_ok : uQ.ok where
  x := uQ_x
  s := rfl
  r := by kernel_rfl
  e := uq_e
  c := by decide
abbrev wqI : Con where
  X := Unit
  Y := Unit
  args _ := [.agg #[.string ⟨#[80, 79, 83, 84]⟩, .string ⟨#[47, 120]⟩, .string ⟨#[104, 58, 56, 49]⟩, .string uFm, .string uBd]]
  pre _ := []
  cond _ := True
  rdc _ F := Gl F ∧ TxG F
  rel _ _ := True
  val _ _ := .returned (.tuple #[.string uQt, .int .i64 0])
  post _ _ := []
  rmono _ _ _ hs h := ⟨h.1.sub hs, h.2.sub hs⟩
theorem wqI_ok : fo_k 41 wqI := ⟨λ_ F I w _ hr hs => wq_ok.h uQ F I w uQ_ok hr hs⟩
end
section
open Go
set_option maxHeartbeats 1000000
structure RqG (F : Atom) : Prop where
  gl : Gl F
  ut : Utf F
  gn : gN.ok F
  gt : gT.ok F
  tx : TxG F
theorem RqG.sub {A B : Atom} (h : RqG A) (hs : Sub A B) : RqG B := ⟨h.gl.sub hs, h.ut.sub hs, λb i v e => (h.gn b i v e).sub hs, λb i v e => (h.gt b i v e).sub hs, h.tx.sub hs⟩
def pkL : List Value := [.int .i64 0, .int .i64 0, .int .i64 6, .string ⟨#[]⟩, .string ⟨#[104]⟩, .int .i64 81, .string ⟨#[47, 120]⟩, .string ⟨#[101]⟩, .string ⟨#[]⟩, .string ⟨#[]⟩, .string ⟨#[]⟩, .string ⟨#[]⟩, .string ⟨#[]⟩, .string uJs]
def rqL : List Value := [.string ⟨#[80, 79, 83, 84]⟩, .string ⟨#[47, 120]⟩, .string ⟨#[104, 58, 56, 49]⟩, .string uFm, .string uBd]
abbrev reqI : Con where
  X := Unit
  Y := Unit
  args _ := [.agg pkL.toArray]
  pre _ := []
  cond _ := True
  rdc _ F := RqG F
  rel _ _ := True
  val _ _ := .returned (.tuple #[.agg rqL.toArray, .int .i64 0])
  post _ _ := []
  rmono _ _ _ hs h := h.sub hs
structure RqC where
  b1 : Nat
  b2 : Nat
  b3 : Nat
  h : Nat
structure RqS where
  i : Nat
  r : Row
  k : Row
  b1 : Nat
  b2 : Nat
  b5 : Nat
  h : Nat
  n : Int
def at4u (j : Nat) : List LH := [.aq j, .aq j, .aq j, .aq j]
structure RqS.ok (d : RqS) : Prop where
  i : d.i ≤ 1
  r : IsRow 36 2 (fCs (uFl.take (d.i + 1))) d.r
  n : d.r.n = d.i + 1
  k : IsRow 9 1 [.string ⟨#[0, 97]⟩] d.k
  m : d.k.n = 1
def eFvv (b : Nat) : Atom := .cells b [.string ⟨#[]⟩, .string ⟨#[]⟩, .string ⟨#[]⟩, .string ⟨#[]⟩, .string ⟨#[]⟩] 45
def qFvv (b : Nat) : Atom := .cells b [.string ⟨#[80, 79, 83, 84]⟩, .string ⟨#[47, 120]⟩, .string ⟨#[104, 58, 56, 49]⟩, .string ⟨#[]⟩, .string ⟨#[]⟩] 45
def rquCut (_x : Unit) (F : Atom) : Nat → Option Inv := fun
  | 9 => some { X := RqC, P := λ_ => True, mu := λ_ => 0, lv := λd => [(2, .pointer (some ⟨d.b1, 0, none⟩)), (4, .pointer (some ⟨d.b2, 0, none⟩)), (5, .slice (some ⟨d.b3, 0, none⟩) 1 1), (6, .pointer (some ⟨d.h, 0, none⟩)), (7, .string uWd), (9, .int .i64 0)], st := λd => [F, eFvv d.b1, qFvv d.b2, .cells d.b3 [.string uNm, .string ⟨#[101]⟩] 36, ho0 d.h 10000] }
  | _ => none
def rquInv (_x : Unit) (F : Atom) : Nat → Option Inv := fun
  | 0 => some { X := RqS, P := λd => d.ok, mu := λd => 1 - d.i, lv := λd => [(2, .pointer (some ⟨d.b1, 0, none⟩)), (4, .pointer (some ⟨d.b2, 0, none⟩)), (5, .slice d.r.a d.r.n d.r.cap), (6, .pointer (some ⟨d.h, 0, none⟩)), (9, .int .i64 0), (10, .pointer (some ⟨d.b5, 0, none⟩)), (11, .int .i64 0), (12, .bool true), (91, .slice d.k.a d.k.n d.k.cap), (92, .int .i64 1), (93, .int .i64 d.i)], st := λd => [F, eFvv d.b1, qFvv d.b2, d.r.A, hoA d.h d.n uKv, .cells d.b5 [.int .i64 5, .float .f64 0, .string ⟨#[]⟩, .int .i64 0] 30, d.k.A] }
  | _ => none
abbrev q124 : List Value := [fo_vi 0, fo_vi 0, fo_vi 6, fo_vs ⟨#[]⟩, fo_vs ⟨#[104]⟩, fo_vi 81, fo_vs ⟨#[47, 120]⟩, fo_vs ⟨#[101]⟩, fo_vs ⟨#[]⟩, fo_vs ⟨#[]⟩, fo_vs ⟨#[]⟩, fo_vs ⟨#[]⟩, fo_vs ⟨#[]⟩, fo_vs uJs]
abbrev q42 (F : Atom) (G E D A y : Nat) := [(0, F), (1000, fo_cl G q124 53), (1001, fo_cl E q11 45), (1002, fo_cl D [fo_vs ⟨#[80, 79, 83, 84]⟩, fo_vs ⟨#[47, 120]⟩, fo_vs ((ByteArray.mk #[104]) ++ ((ByteArray.mk #[58]) ++ (ByteArray.mk #[56, 49]))), fo_vs ⟨#[]⟩, fo_vs ⟨#[]⟩] 45), (1003, fo_cl A [fo_vs ⟨#[95, 115, 99, 120, 109, 108, 101, 118, 101, 110, 116, 110, 97, 109, 101]⟩, fo_vs ⟨#[101]⟩] 36), (1004, fo_cl y q45 60)]
abbrev q338 (a : RqC) : Option Addr := some ⟨a.h, 0, none⟩
abbrev q17 : List Value := [fo_vs ⟨#[80, 79, 83, 84]⟩, fo_vs ⟨#[47, 120]⟩, fo_vs ⟨#[104, 58, 56, 49]⟩, fo_vs ⟨#[]⟩, fo_vs ⟨#[]⟩]
abbrev q228 (F : Atom) (a : RqC) := [(0, F), (1, fo_cl a.b1 q11 45), (2, fo_cl a.b2 q17 45), (3, fo_cl a.b3 [fo_vs uNm, fo_vs ⟨#[101]⟩] 36), (4, fo_cl a.h q45 60)]
abbrev q339 (a : RqS) : Option Addr := some ⟨a.h, 0, none⟩
abbrev q94 (F : Atom) (a : RqS) := [(0, F), (1, fo_cl a.b1 q11 45), (2, fo_cl a.b2 q17 45), (3, a.r.A), (4, fo_pr (Ex.rest (hoR uKv) (hoB a.h a.n uKv))), (5, fo_cl a.b5 q14 30), (6, a.k.A)]
abbrev q174 (F : Atom) (n : RqS) (k : HhX) (i : Nat) := fo_aR [(0, F), (1, fo_cl n.b1 q11 45), (2, fo_cl n.b2 q17 45), (3, n.r.A), (4, fo_pr (Ex.rest (hoR uKv) (hoB k.b k.n uKv))), (5, fo_cl n.b5 q14 30), (6, n.k.A), (2007, fo_cl i q27 30)] []
abbrev q154 : List Value := [fo_vs (uNm, (ByteArray.mk #[101])).fst, fo_vs (uNm, (ByteArray.mk #[101])).snd, fo_vs ((ByteArray.mk #[97]), (ByteArray.mk #[49])).fst, fo_vs ((ByteArray.mk #[97]), (ByteArray.mk #[49])).snd]
abbrev q22 : List Value := [fo_vs ⟨#[80, 79, 83, 84]⟩, fo_vs ⟨#[47, 120]⟩, fo_vs ⟨#[104, 58, 56, 49]⟩, fo_vs ⟨#[97, 112, 112, 108, 105, 99, 97, 116, 105, 111, 110, 47, 120, 45, 119, 119, 119, 45, 102, 111, 114, 109, 45, 117, 114, 108, 101, 110, 99, 111, 100, 101, 100]⟩, fo_vs uBd]
theorem req_vc (x : PUnit) (F : Atom) (hc : reqI.cond x) (hr : reqI.rdc x F) :
 ∀(G E : Nat), fo_sm G 2 ∧ fo_sm G 6 ∧ fo_sm G 4 ∧ ∀(D : Nat), fo_s5 D (fo_sm G 5 ∧ true = true ∧ fo_sm D 2 ∧ fo_sm G 5 ∧ fo_C2 31 it81 q80 q57 [fo_vi 81] (fo_aR [(0, F), (1000, fo_cl G q124 53), (1001, fo_cl E q11 45), (1002, fo_cl D [fo_vs ⟨#[80, 79, 83, 84]⟩, fo_vs ⟨#[47, 120]⟩, fo_vs ⟨#[104]⟩, fo_vs ⟨#[]⟩, fo_vs ⟨#[]⟩] 45)] []) (λC B => 3 ≤ 9223372036854775807 ∧ 4 ≤ 9223372036854775807 ∧ fo_sm D 2 ∧ fo_sm G 7 ∧ ∀(A : Nat), T80 [fo_vi 10000] (λz y => (fo_sm G 13 ∧ fo_C2 32 wdI q80 (λ_ => Utf) [fo_vs uJs] (fo_aR (q42 F G E D A y) []) (λc b => ∃(a : RqC), True ∧ (fo_vp (q13 E) = fo_vp (some ⟨a.b1, 0, none⟩) ∧ fo_vp (q13 D) = fo_vp (some ⟨a.b2, 0, none⟩) ∧ fo_vl (q13 A) 1 1 = fo_vl (some ⟨a.b3, 0, none⟩) 1 1 ∧ fo_vp (q13 y) = fo_vp (q338 a) ∧ fo_vs uWd = fo_vs uWd ∧ fo_vi 0 = fo_vi 0 ∧ True) ∧ Ent (q42 F G E D A y) (q228 F a))) ∧ fo_vA λ(w : RqC) _ => True → fo_C4 33 pzI q378 (λ_ rr => gN.ok rr ∧ Utf rr) (λ_ _ => True) [fo_vp (q338 w), fo_vs uWd] [fo_cl w.h q45 60] (fo_aR (q228 F w) [4]) (λu t => ∀(s : Nat), fo_sm s 0 ∧ fo_sm s 1 ∧ fo_sm s 2 ∧ fo_sm s 3 ∧ fo_sm s 0 ∧ fo_sm s 3 ∧ fo_C3 34 kiI (λ_ => True) [fo_vp (q338 w), fo_vi 0] [fo_pr (Ex.rest (hoR uKv) (hoB u.b t uKv))] (λr q => fo_sm s 3 ∧ fo_C6 35 keI (λ_ => True) (λ_ o => IsRow 9 1 [fo_vs ⟨#[0, 97]⟩] o ∧ o.n = 1) [fo_vp (q338 w), fo_vi 0] [fo_pr (Ex.rest (hoR uKv) (hoB r.b r.n uKv))] (λp o => (∃(a : RqS), a.ok ∧ (fo_vp (some ⟨w.b1, 0, none⟩) = fo_vp (some ⟨a.b1, 0, none⟩) ∧ fo_vp (some ⟨w.b2, 0, none⟩) = fo_vp (some ⟨a.b2, 0, none⟩) ∧ fo_vl (some ⟨w.b3, 0, none⟩) 1 1 = fo_vl a.r.a a.r.n a.r.cap ∧ fo_vp (q338 w) = fo_vp (q339 a) ∧ fo_vi 0 = fo_vi 0 ∧ fo_vp (q13 s) = fo_vp (some ⟨a.b5, 0, none⟩) ∧ fo_vi 0 = fo_vi 0 ∧ fo_vb ((1 : Int) == (1 : Int)) = fo_vb true ∧ fo_vl o.a o.n o.cap = fo_vl a.k.a a.k.n a.k.cap ∧ fo_vi ↑o.n = fo_vi 1 ∧ fo_vi 0 = fo_vi ↑a.i ∧ True) ∧ Ent [(0, F), (1, fo_cl w.b1 q11 45), (2, fo_cl w.b2 q17 45), (3, fo_cl w.b3 [fo_vs uNm, fo_vs ⟨#[101]⟩] 36), (4, fo_pr (Ex.rest (hoR uKv) (hoB p.b p.n uKv))), (1005, fo_cl s q14 30), (1006, o.A)] (q94 F a)) ∧ fo_vA λ(n : RqS) _ => n.ok → fo_Bd ((n.i : Int) < 1) (T47 (opIn Tryz.f14 14 0) [fo_vl n.k.a n.k.n n.k.cap, fo_vi ↑n.i] (λl => Look n.k.A ⟨l.b, l.o + l.n.toNat * 1, none⟩ (fo_vs ⟨#[0, 97]⟩) ∧ fo_sm n.b5 3 ∧ fo_C3 36 owI (λ_ => True) [fo_vp (q339 n), fo_vi 0, fo_vs ⟨#[0, 97]⟩] [fo_pr (Ex.rest (hoR uKv) (hoB n.h n.n uKv))] (λk j => ∀(i : Nat), fo_sm i 0 ∧ fo_sm i 1 ∧ fo_sm i 2 ∧ fo_sm i 3 ∧ fo_C2 37 nrI q80 q57 [fo_vs ⟨#[0, 97]⟩] (q174 F n k i) (λh g => fo_sm i 0 ∧ fo_sm i 1 ∧ fo_sm i 2 ∧ fo_sm i 3 ∧ fo_C2 38 bvnC q378 (λ_ rr => Utf rr ∧ gT.ok rr) [fo_vp (q339 n), agg ⟨q27⟩] (q174 F n k i) (λf e => ∀(d : Nat), T29 (opIn Tryz.f14 17 7) [fo_vl n.r.a n.r.n n.r.cap, fo_vl (q13 d) 1 1] [n.r.A] (fo_aR [(0, F), (1, fo_cl n.b1 q11 45), (2, fo_cl n.b2 q17 45), (3, n.r.A), (4, fo_pr (Ex.rest (hoR uKv) (hoB k.b k.n uKv))), (5, fo_cl n.b5 q14 30), (6, n.k.A), (2007, fo_cl i q27 30), (2008, fo_cl d [fo_vs ⟨#[97]⟩, fo_vs ⟨#[49]⟩] 36)] [3]) (λc b => fo_rI ((n.i : Int) + 1) ∧ ∃(a : RqS), a.ok ∧ (fo_vp (some ⟨n.b1, 0, none⟩) = fo_vp (some ⟨a.b1, 0, none⟩) ∧ fo_vp (some ⟨n.b2, 0, none⟩) = fo_vp (some ⟨a.b2, 0, none⟩) ∧ fo_vl b.a b.n b.cap = fo_vl a.r.a a.r.n a.r.cap ∧ fo_vp (q339 n) = fo_vp (q339 a) ∧ fo_vi 0 = fo_vi 0 ∧ fo_vp (some ⟨n.b5, 0, none⟩) = fo_vp (some ⟨a.b5, 0, none⟩) ∧ fo_vi 0 = fo_vi 0 ∧ fo_vb true = fo_vb true ∧ fo_vl n.k.a n.k.n n.k.cap = fo_vl a.k.a a.k.n a.k.cap ∧ fo_vi 1 = fo_vi 1 ∧ fo_vi ((n.i : Int) + 1) = fo_vi ↑a.i ∧ True) ∧ Ent [(0, F), (1, fo_cl n.b1 q11 45), (2, fo_cl n.b2 q17 45), (3, b.A), (4, fo_pr (Ex.rest (hoR uKv) (hoB k.b k.n uKv))), (5, fo_cl n.b5 q14 30), (6, n.k.A), (2007, fo_cl i q27 30), (2008, fo_cl d [fo_vs ⟨#[97]⟩, fo_vs ⟨#[49]⟩] 36)] (q94 F a) ∧ 1 - a.i < 1 - n.i)))))) (fo_C2 39 fwI (λd => IsSrc 2 q154 d.a d.n ∧ d.n ≤ 1000000) (λd rr => Srcd rr d.a q154) [fo_vl n.r.a n.r.n n.r.cap] (fo_aR (q94 F n) []) (λd c => fo_sm n.b2 3 ∧ fo_sm n.b2 4 ∧ fo_s5 n.b2 (fo_C2 41 wqI q80 (λ_ rr => Gl rr ∧ TxG rr) [agg ⟨q22⟩] (fo_aR [(0, F), (1, fo_cl n.b1 q11 45), (2, fo_cl n.b2 q22 45), (3, n.r.A), (4, fo_pr (Ex.rest (hoR uKv) (hoB n.h n.n uKv))), (5, fo_cl n.b5 q14 30), (6, n.k.A)] []) (λb a => fo_s5 n.b2 (fo_s5 n.b1 (fo_s5 n.b1 (Done reqI x F (fo_rt (tuple { toList := [agg { toList := q22 }, fo_vi 0] })) [(0, F), (1, fo_cl n.b1 q22 45), (2, fo_cl n.b2 q22 45), (3, n.r.A), (4, fo_pr (Ex.rest (hoR uKv) (hoB n.h n.n uKv))), (5, fo_cl n.b5 q14 30), (6, n.k.A)]))))))))))))) := by
  delta q80 q57 q124 q11 T80 q45 q42 q13 q338 q17 q228 q378 q339 q14 q94 q116 T47 q27 q174 q258 q247 q114 T29 q154 q22 fo_aR fo_sm fo_rI fo_s5 fo_C0 fo_C2 fo_C3 fo_C4 fo_C6 fo_O4 fo_vi fo_vs fo_vb fo_vp fo_vl fo_cl fo_pr fo_Bd fo_rt fo_vA
  have hr : RqG F := hr
  have fr : ∀ (S : St) (touch : List Nat), 0 ∉ touch → gt S 0 = F → RqG (.pred (rest S touch)) := λS touch h e => hr.sub (sub_rest (A := F) 0 h e)
  intro b b1
  refine ⟨⟨rfl, rfl⟩, ⟨rfl, rfl⟩, ⟨rfl, rfl⟩, λb2 => ⟨⟨rfl, rfl⟩, ⟨rfl, rfl⟩, ⟨rfl, rfl⟩, ⟨rfl, rfl⟩, ⟨rfl, rfl⟩, ⟨rfl, rfl⟩, rfl, ⟨rfl, rfl⟩, ⟨rfl, rfl⟩, it81_ok, rfl, (), rfl, rfl, fo_tv, noG_ok, λ_ _ => ⟨by decide, by decide, ⟨rfl, rfl⟩, ⟨rfl, rfl⟩, λb3 => ⟨nwa_ok, rfl, (), rfl, rfl, fo_tv, fo_tv, λh _ => ⟨⟨⟨rfl, rfl⟩, wdI_ok, rfl, (), rfl, rfl, fo_tv, (fr _ _ (by simp) rfl).ut, λ_ _ => ⟨⟨b1, b2, b3, h⟩, fo_tv, ⟨rfl, rfl, rfl, rfl, rfl, rfl, fo_tv⟩, Ent.pick [0, 1001, 1002, 1003, 1004] rfl rfl⟩⟩, ?_⟩⟩⟩⟩⟩
  rintro ⟨b1, b2, b3, h⟩ js -
  refine ⟨pzI_ok, rfl, ⟨h⟩, rfl, rfl, fo_tv, ⟨(fr _ _ (by simp) rfl).gn, (fr _ _ (by simp) rfl).ut⟩, λn _ b5 => ⟨⟨rfl, rfl⟩, ⟨rfl, rfl⟩, ⟨rfl, rfl⟩, ⟨rfl, rfl⟩, ⟨rfl, rfl⟩, ⟨rfl, rfl⟩, kiI_ok, rfl, ⟨h, n, uKv, ⟨#[]⟩⟩, rfl, rfl, fo_tv, fo_tv, λ_ _ => ⟨⟨rfl, rfl⟩, keI_ok, rfl, ⟨h, n, uKv, ⟨#[]⟩⟩, rfl, rfl, fo_tv, fo_tv, λk ⟨k1, k2⟩ =>
    ⟨⟨⟨0, ⟨some ⟨b3, 0, none⟩, 1, 1, .cells b3 [.string uNm, .string ⟨#[101]⟩] 36⟩, k, b1, b2, b5, h, n⟩, ⟨fo_zl _, .blk b3 1 1 [] rfl rfl (by decide), rfl, k1, k2⟩, ⟨rfl, rfl, rfl, rfl, rfl, rfl, rfl, rfl, rfl, by rw [k2] <;> rfl, rfl, fo_tv⟩, Ent.pick [0, 1, 2, 3, 4, 1005, 1006] rfl rfl⟩, ?_⟩⟩⟩⟩
  rintro ⟨i, r, k, b1, b2, b5, h, n⟩ js ⟨g1, g2, g3, g4, g5⟩
  dsimp only at g1 g2 g3 g4 g5 ⊢
  refine br_decide (λq => ?_) (λq => ?_)
  · have hi : i = 0 := by omega
    subst hi
    have g4' := g4
    cases g4' with
    | nil e => cases e
    | blk kb kn kc sp hl hs hn =>
      have g5 : kn = 1 := g5
      refine ⟨ixq_ok 1 rfl rfl rfl rfl, ⟨kb, 0, kn, kc, 0⟩, rfl, ⟨fo_ir _, by dsimp only; omega⟩, Look.cells rfl, ⟨rfl, rfl⟩, owI_ok, rfl, ⟨h, n, uKv, ⟨#[]⟩⟩, rfl, rfl, fo_tv, fo_tv, λ_ _ bb => ⟨⟨rfl, rfl⟩, ⟨rfl, rfl⟩, ⟨rfl, rfl⟩, ⟨rfl, rfl⟩, nrI_ok, rfl, (), rfl, rfl, fo_tv, noG_ok, λ_ _ => ⟨⟨rfl, rfl⟩, ⟨rfl, rfl⟩, ⟨rfl, rfl⟩, ⟨rfl, rfl⟩, bvn_ok, rfl, ⟨h⟩, rfl, rfl, fo_tv, ⟨(fr _ _ (by simp) rfl).ut, (fr _ _ (by simp) rfl).gt⟩, λ_ _ b4 =>
        ⟨append_ok (P := Tryz.prog) 2 32 rfl rfl rfl rfl rfl rfl rfl (by decide), rfl, ⟨r, fCs (uFl.take 1), some ⟨b4, 0, none⟩, 1, 1, fCs [(⟨#[97]⟩, ⟨#[49]⟩)]⟩, rfl, rfl, ⟨g2, rfl, λu hu => fCs_one hu, by dsimp only; omega, by dsimp only; omega, λe => by cases e⟩, λa ha => ?_, λy ⟨y1, y2, _⟩ => ⟨by decide, ⟨1, y, _, b1, b2, b5, h, n⟩, ⟨fo_nr _, y1, ?_, g4, g5⟩, ⟨rfl, rfl, rfl, rfl, rfl, rfl, rfl, rfl, rfl, rfl, rfl, fo_tv⟩, Ent.pick [0, 1, 2, 3, 4, 5, 6] rfl rfl, (by decide : 0 < 1)⟩⟩⟩⟩⟩
      · cases ha
        exact Seg.rest (j := 2008) (by simp) (Seg.cells (λj u hj => by rw [fo_za]; exact hj))
      · dsimp only at y2 ⊢
        omega
  · have hi : i = 1 := by omega
    subst hi
    refine ⟨fwI_ok, rfl, r, rfl, rfl, ⟨g2.src, by omega⟩, row_srcd 3 (by simp) rfl g2, λ_ _ => ⟨⟨rfl, rfl⟩, ⟨rfl, rfl⟩, ⟨rfl, rfl⟩, ⟨rfl, rfl⟩, ⟨rfl, rfl⟩, ⟨rfl, rfl⟩, ⟨rfl, rfl⟩, wqI_ok, rfl, (), rfl, rfl, fo_tv, ⟨(fr _ _ (by simp) rfl).gl, (fr _ _ (by simp) rfl).tx⟩, λ_ _ => ?_⟩⟩
    repeat (first | refine ⟨⟨rfl, rfl⟩, ?_⟩ | refine ⟨rfl, ?_⟩)
    exact ⟨(), fo_tv, rfl, Ent.pick [0] rfl rfl⟩
theorem req_ok : fo_k 14 reqI := fo 172 Tryz.func14 (λ_ _ => [(0, 0, .n 1000), (0, 1, .n 1001), (1, 2, .q [.aq 1000]), (3, 2, .q [.aq 1000]), (3, 5, .q [.aq 1000]), (3, 7, .n 1002), (3, 8, .w (at5 1002)), (4, 2, .q [.aq 1000]), (5, 1, .q [.aq 1002]), (5, 4, .q [.aq 1000]), (5, 5, .c it81 [] []), (5, 9, .w [.aq 1002]), (6, 2, .q [.aq 1000]), (6, 4, .n 1003), (7, 0, .c nwaC [] [1004]), (8, 2, .q [.aq 1000]), (8, 3, .c wdI [] []), (9, 2, .c pzI [4] [4]), (9, 6, .n 1005), (9, 7, .w (at4u 1005)), (10, 7, .q [.aq 1005]), (10, 13, .q [.aq 1005]), (10, 15, .c kiI [4] [4]), (12, 2, .q [.aq 1005]), (12, 3, .c keI [4] [4, 1006]), (14, 0, .qo (ixQ 1)), (14, 1, .q [.ex 6 (.is (.string ⟨#[0, 97]⟩))]), (15, 2, .q [.aq 5]), (15, 4, .c owI [4] [4]), (15, 8, .n 2007), (15, 9, .w (at4u 2007)), (16, 1, .c nrI [] []), (17, 3, .q (at4u 2007)), (17, 4, .c bvnC [] []), (17, 6, .n 2008), (17, 7, .o (apC 36 2 32) [3] [3]), (19, 1, .c fwI [] []), (23, 2, .w [.aq 2]), (23, 4, .w [.aq 2]), (31, 0, .q (at5 2)), (31, 1, .c wqI [] []), (34, 0, .q (at5 2)), (34, 1, .w (at5 1))]) [(10, 8, OH.q [LH.aq (1005 : Nat)]), (10, 14, OH.q [LH.aq (1005 : Nat)])] rquInv rquCut fo_o (at5 1) req_vc
end
section
open Go
set_option maxHeartbeats 1000000
structure SmX where
  a : ByteArray
  b : ByteArray
  c : ByteArray
  d : ByteArray
  e : ByteArray
abbrev lwsC : Con where
  X := SmX
  Y := Unit
  args x := [.agg #[.string x.a, .string x.b, .string x.c, .string x.d, .string x.e]]
  pre _ := []
  cond x := x.a.size + x.b.size + x.c.size + x.d.size + x.e.size ≤ 703687441776640
  rdc _ _ := True
  rel _ _ := True
  val x _ := .returned (.bool (decide (x.a.size + x.b.size + x.c.size + x.d.size + x.e.size ≤ 9000)))
  post _ _ := []
theorem lws_vc (x : SmX) (F : Atom) (hc : lwsC.cond x) (hr : lwsC.rdc x F) :
 ∀(a : Nat), fo_sm a 0 ∧ fo_sm a 1 ∧ fo_rI ((x.a.size : Int) + (x.b.size : Int)) ∧ fo_sm a 2 ∧ fo_rI ((x.a.size : Int) + (x.b.size : Int) + (x.c.size : Int)) ∧ fo_sm a 3 ∧ fo_rI ((x.a.size : Int) + (x.b.size : Int) + (x.c.size : Int) + (x.d.size : Int)) ∧ fo_sm a 4 ∧ fo_rI ((x.a.size : Int) + (x.b.size : Int) + (x.c.size : Int) + (x.d.size : Int) + (x.e.size : Int)) ∧ Done lwsC x F (fo_rt (fo_vb (decide ((x.a.size : Int) + (x.b.size : Int) + (x.c.size : Int) + (x.d.size : Int) + (x.e.size : Int) ≤ 9000)))) [(0, F), (1000, fo_cl a [fo_vs x.a, fo_vs x.b, fo_vs x.c, fo_vs x.d, fo_vs x.e] 45)] := by
  delta fo_sm fo_rI fo_vs fo_vb fo_cl fo_rt
  have hc : x.a.size + x.b.size + x.c.size + x.d.size + x.e.size ≤ 703687441776640 := hc
  refine λb => ⟨⟨rfl, rfl⟩, ⟨rfl, rfl⟩, ⟨by omega, by omega⟩, ⟨rfl, rfl⟩, ⟨by omega, by omega⟩, ⟨rfl, rfl⟩, ⟨by omega, by omega⟩, ⟨rfl, rfl⟩, ⟨by omega, by omega⟩, (), fo_tv, ?_, Ent.pick [0] rfl rfl⟩
  show _ = returned (.bool (decide (x.a.size + x.b.size + x.c.size + x.d.size + x.e.size ≤ 9000)))
  have e : decide ((x.a.size : Int) + x.b.size + x.c.size + x.d.size + x.e.size ≤ 9000) = decide (x.a.size + x.b.size + x.c.size + x.d.size + x.e.size ≤ 9000) := by rw [decide_eq_decide]; omega
  rw [e]
theorem lws_ok : fo_k 16 lwsC := fo 23 Tryz.func16 (λ_ _ => [(0, 0, .n 1000)]) [(1, 1, OH.q [LH.aq (1000 : Nat)]), (1, 4, OH.q [LH.aq (1000 : Nat)]), (1, 8, OH.q [LH.aq (1000 : Nat)]), (1, 12, OH.q [LH.aq (1000 : Nat)]), (1, 16, OH.q [LH.aq (1000 : Nat)])] fo_i fo_i fo_o [] lws_vc
end
section
open Go
set_option maxHeartbeats 1000000
theorem quo_run {P : Program} {o : Oper} {t tn : TypeId} {x y : Operand} {ρ : Operand → Value} {i : IntKind} {a b : Int} (ho : o.op = .binOp .quo t x y tn) (hx : ρ x = .int i a) (hy : ρ y = .int i b) (hb : b ≠ 0) (hr : inR i (a.tdiv b)) (w : World) : (execOp ρ o).run P w = .ok (.value (.int i (a.tdiv b))) w := by
  simp [execOp, ho, hx, hy, eqGuard, binOp, Op.intDiv, hb, wrap_in hr, pure, Sem.run, bind, Sem.bind]
theorem rem_run {P : Program} {o : Oper} {t tn : TypeId} {x y : Operand} {ρ : Operand → Value} {i : IntKind} {a b : Int} (ho : o.op = .binOp .rem t x y tn) (hx : ρ x = .int i a) (hy : ρ y = .int i b) (hb : b ≠ 0) (w : World) : (execOp ρ o).run P w = .ok (.value (.int i (a.tmod b))) w := by
  simp [execOp, ho, hx, hy, eqGuard, binOp, Op.intDiv, hb, pure, Sem.run, bind, Sem.bind]
def dvN (m : Nat) : QCon where
  X := Nat
  args x := [.int .i64 x, .int .i64 m]
  cond x := x < 4611686018427387904 ∧ 0 < m
  val x := .int .i64 (x / m : Nat)
theorem dvn_ok {P : Program} {m : Nat} {o : Oper} {t tn : TypeId} {x y : Operand} (ho : o.op = .binOp .quo t x y tn) : QOpOk P o (dvN m) := by
  refine ⟨λ(a : Nat) w ρ ha hc => ?_⟩
  have hc : a < 4611686018427387904 ∧ 0 < m := hc
  simp only [ho, Op.operands, dvN] at ha
  have ha2 : ρ x = .int .i64 a ∧ ρ y = .int .i64 m := by simpa using ha
  refine quo_run ho ha2.1 ha2.2 (by omega) ?_ w
  have hd : a / m ≤ a := Nat.div_le_self a m
  show inR .i64 ((a / m : Nat) : Int)
  generalize a / m = q at hd
  simp only [inR]; omega
def mdN (m : Nat) : QCon where
  X := Nat
  args x := [.int .i64 x, .int .i64 m]
  cond x := 0 < m
  val x := .int .i64 (x % m : Nat)
theorem mdn_ok {P : Program} {m : Nat} {o : Oper} {t tn : TypeId} {x y : Operand} (ho : o.op = .binOp .rem t x y tn) : QOpOk P o (mdN m) := by
  refine ⟨λ(a : Nat) w ρ ha hc => ?_⟩
  have hc : 0 < m := hc
  simp only [ho, Op.operands, mdN] at ha
  have ha2 : ρ x = .int .i64 a ∧ ρ y = .int .i64 m := by simpa using ha
  exact rem_run ho ha2.1 ha2.2 (by omega) w
structure UntX where
  u : Nat
abbrev unC : Con where
  X := UntX
  Y := Unit
  args x := [.int .i64 x.u]
  pre _ := []
  cond x := x.u < 65536
  rdc _ _ := True
  rel _ _ := True
  val x _ := .returned (.string (btL [x.u / 256, x.u % 256]))
  post _ _ := []
theorem un_vc (x : UntX) (F : Atom) (hc : unC.cond x) (hr : unC.rdc x F) :
 QOpOk Tryz.prog (opIn Tryz.f65 1 1) (dvN 256) ∧ ∃(g : Nat), [fo_vi ↑x.u, fo_vi 256] = [fo_vi ↑g, fo_vi (↑(256 : Nat) : Int)] ∧ (g < 4611686018427387904 ∧ 0 < 256) ∧ T93 (opIn Tryz.f65 1 2) [fo_vi (↑(g / 256) : Int)] (λf => QOpOk Tryz.prog (opIn Tryz.f65 1 4) (mdN 256) ∧ ∃(e : Nat), [fo_vi ↑x.u, fo_vi 256] = [fo_vi ↑e, fo_vi (↑(256 : Nat) : Int)] ∧ 0 < 256 ∧ T93 (opIn Tryz.f65 1 5) [fo_vi (↑(e % 256) : Int)] (λd => ∀(c : Nat), T4 (opIn Tryz.f65 1 7) [fo_vl (q13 c) 2 2] (fo_aR [(0, F), (2060, fo_cl c (q250 f d) 5)] []) (λb a => Done unC x F (q248 b) [(0, F), (2060, fo_cl c (q250 f d) 5)]))) := by
  delta T93 T4 q13 q250 q248 fo_aR fo_O2 fo_vi fo_vc fo_vs fo_vl fo_cl fo_rt
  have hu : x.u < 65536 := hc
  have e1 : x.u / 256 % 256 = x.u / 256 := Nat.mod_eq_of_lt (by omega)
  have e2 : x.u % 256 % 256 = x.u % 256 := Nat.mod_eq_of_lt (by omega)
  refine ⟨dvn_ok rfl, x.u, rfl, ⟨by omega, by decide⟩, cv_u8 rfl rfl rfl, x.u / 256, rfl, fo_tv, mdn_ok rfl, x.u, rfl, by decide, cv_u8 rfl rfl rfl, x.u % 256, rfl, fo_tv, λb => ⟨b2s_ok rfl rfl rfl rfl, rfl, ⟨some ⟨b, 0, none⟩, 2, 2, [x.u / 256, x.u % 256]⟩, rfl, rfl, .blk b 0 2 rfl, ?_, λ_ _ => ⟨(), fo_tv, rfl, Ent.pick [0] rfl rfl⟩⟩⟩
  dsimp only
  rw [e1, e2]
  exact λa ha => by
    cases ha
    exact Seg.rest (j := 2060) (by simp) (Seg.cells (λj u hj => by rw [fo_za]; exact hj))
theorem un_ok : fo_k 65 unC := fo 11 Tryz.func65 (λ_ _ => [(1, 1, .qo (dvN 256)), (1, 2, .qo (cvQ .i64 .u8 256)), (1, 4, .qo (mdN 256)), (1, 5, .qo (cvQ .i64 .u8 256)), (1, 6, .n 2060), (1, 7, .o b2sC [] [])]) [] fo_i fo_i fo_o [] un_vc
structure CrX where
  s : ByteArray
  i : Nat
abbrev crC : Con where
  X := CrX
  Y := Unit
  args x := [.string x.s, .int .i64 x.i]
  pre _ := []
  cond x := x.s.size ≤ 1048576 ∧ x.i ≤ x.s.size
  rdc _ _ := True
  rel _ _ := True
  val x _ := .returned (.tuple #[.int .i64 ((chV x.s x.i).getD (0, 0)).1, .int .i64 ((chV x.s x.i).getD (0, 0)).2])
  post _ _ := []
structure CrS where
  k : Nat
  c : Nat
  f : Nat
structure CrS.ok (d : CrS) (x : CrX) : Prop where
  k1 : 1 ≤ d.k
  kn : d.k ≤ (chL (bt x.s x.i)).1
  hf : (chL (bt x.s x.i)).1 ≤ d.k + d.f
  hc : d.c < 64 ^ d.k
  he : chT x.s x.i (chL (bt x.s x.i)).1 (chL (bt x.s x.i)).2.2 4 1 (chL (bt x.s x.i)).2.1 = chT x.s x.i (chL (bt x.s x.i)).1 (chL (bt x.s x.i)).2.2 d.f d.k d.c
def crV (x : CrX) : Nat × Nat × Nat := chL (bt x.s x.i)
structure crP (x : CrX) : Prop where
  hi : x.i < x.s.size
  h8 : 128 ≤ bt x.s x.i
  hn : (crV x).1 ≠ 0
def crInv (x : CrX) (F : Atom) : Nat → Option Inv := fun
  | 0 => some { X := CrS, P := λd => d.ok x ∧ crP x ∧ x.i + (crV x).1 ≤ x.s.size, mu := λd => (crV x).1 - d.k, lv := λd => [(0, .string x.s), (1, .int .i64 x.i), (7, .int .i64 (crV x).1), (8, .int .i64 d.c), (9, .int .i64 (crV x).2.2), (10, .int .i64 d.k)], st := λ_ => [F] }
  | _ => none
def crCut (x : CrX) (F : Atom) : Nat → Option Inv := fun
  | 14 => some { X := Unit, P := λ_ => crP x, mu := λ_ => 0, lv := λ_ => [(0, .string x.s), (1, .int .i64 x.i), (7, .int .i64 (crV x).1), (8, .int .i64 (crV x).2.1), (9, .int .i64 (crV x).2.2)], st := λ_ => [F] }
  | _ => none
theorem chL2 {b : Nat} (h : 192 ≤ b ∧ b < 224) : chL b = (2, b - 192, 128) := by unfold chL; rw [fo_dt h.1, fo_dt h.2] <;> rfl
theorem chL3 {b : Nat} (h : 224 ≤ b ∧ b < 240) : chL b = (3, b - 224, 2048) := by unfold chL; rw [fo_df (show ¬ b < 224 by omega), fo_baf, fo_dt h.1, fo_dt h.2] <;> rfl
theorem chL4 {b : Nat} (h : 240 ≤ b ∧ b < 248) : chL b = (4, b - 240, 65536) := by unfold chL; rw [fo_df (show ¬ b < 224 by omega), fo_baf, fo_df (show ¬ b < 240 by omega), fo_baf, fo_dt h.1, fo_dt h.2] <;> rfl
theorem chL0 {b : Nat} (h : b < 192 ∨ 248 ≤ b) : chL b = (0, 0, 0) := by
  unfold chL
  rcases h with h | h
  · rw [fo_df (show ¬ 192 ≤ b by omega), fo_df (show ¬ 224 ≤ b by omega), fo_df (show ¬ 240 ≤ b by omega)] <;> rfl
  · rw [fo_df (show ¬ b < 224 by omega), fo_baf, fo_df (show ¬ b < 240 by omega), fo_baf, fo_df (show ¬ b < 248 by omega), fo_baf] <;> rfl
theorem chL_le (b : Nat) : (chL b).1 ≤ 4 ∧ (b < 256 → (chL b).2.1 < 64) ∧ (chL b).2.2 ≤ 65536 := by
  by_cases h2 : 192 ≤ b ∧ b < 224
  · rw [chL2 h2]; dsimp only; omega
  by_cases h3 : 224 ≤ b ∧ b < 240
  · rw [chL3 h3]; dsimp only; omega
  by_cases h4 : 240 ≤ b ∧ b < 248
  · rw [chL4 h4]; dsimp only; omega
  · rw [chL0 (by omega)]; dsimp only; omega
theorem chV_end {s : ByteArray} {i : Nat} (h : ¬ i < s.size) : chV s i = none := by unfold chV; rw [fo_df h] <;> rfl
theorem chV_asc {s : ByteArray} {i : Nat} (h : i < s.size) (h8 : bt s i < 128) : chV s i = some (bt s i, 1) := by unfold chV; rw [fo_dt h, fo_ct, fo_dt h8, fo_ct]
theorem chV_hi {s : ByteArray} {i : Nat} (h : i < s.size) (h8 : 128 ≤ bt s i) : chV s i = bif (chL (bt s i)).1 == 0 then none
    else bif decide (i + (chL (bt s i)).1 > s.size) then none
    else (chT s i (chL (bt s i)).1 (chL (bt s i)).2.2 4 1 (chL (bt s i)).2.1).map λc => (c, (chL (bt s i)).1) := by unfold chV; rw [fo_dt h, fo_ct, fo_df (show ¬ bt s i < 128 by omega), fo_cf]
def q51 (x : CrX) (F : Atom) := Done crC x F q275 [(0, F)]
def T119 (e0 : CrX) (e1 : Atom) (v0 v1 v2 : Value) (ss : St) := ∃ (z : Unit), crP e0 ∧ (fo_vs e0.s = fo_vs e0.s ∧ fo_vi ↑e0.i = fo_vi ↑e0.i ∧ v0 = fo_vi (↑(crV e0).fst : Int) ∧ v1 = fo_vi (↑(crV e0).snd.fst : Int) ∧ v2 = fo_vi (↑(crV e0).snd.snd : Int) ∧ True) ∧ Ent ss [(0, e1)]
def q19 (x : CrX) (F : Atom) := fo_Bd (byteAt x.s (x.i : Int) ≥ 240) (fo_Bd (byteAt x.s (x.i : Int) < 248) (fo_rI (byteAt x.s (x.i : Int) - 240) ∧ T119 x F (fo_vi 4) (fo_vi (byteAt x.s (x.i : Int) - 240)) (fo_vi 65536) [(0, F)]) (q51 x F)) (q51 x F)
def q138 (x : CrX) (F : Atom) := fo_Bd (byteAt x.s (x.i : Int) ≥ 224) (fo_Bd (byteAt x.s (x.i : Int) < 240) (fo_rI (byteAt x.s (x.i : Int) - 224) ∧ T119 x F (fo_vi 3) (fo_vi (byteAt x.s (x.i : Int) - 224)) (fo_vi 2048) [(0, F)]) (q19 x F)) (q19 x F)
def q342 (a : CrS) (x : CrX) := a.ok x ∧ crP x ∧ x.i + (crV x).fst ≤ x.s.size
def q329 (x : CrX) (F : Atom) (c : CrS) := Done crC x F (fo_rt (tuple ⟨[fo_vi ↑c.c, fo_vi (↑(crV x).fst : Int)]⟩)) [(0, F)]
theorem cr_vc (x : CrX) (F : Atom) (hc : crC.cond x) (hr : crC.rdc x F) :
 fo_Bd ((x.i : Int) ≥ (x.s.size : Int)) (q51 x F) ((0 ≤ (x.i : Int) ∧ (x.i : Int) < (x.s.size : Int)) ∧ fo_rI (byteAt x.s (x.i : Int)) ∧ fo_Bd (byteAt x.s (x.i : Int) < 128) (Done crC x F (fo_rt (tuple ⟨[fo_vi (byteAt x.s (x.i : Int)), fo_vi 1]⟩)) [(0, F)]) (fo_Bd (byteAt x.s (x.i : Int) ≥ 192) (fo_Bd (byteAt x.s (x.i : Int) < 224) (fo_rI (byteAt x.s (x.i : Int) - 192) ∧ T119 x F (fo_vi 2) (fo_vi (byteAt x.s (x.i : Int) - 192)) (fo_vi 128) [(0, F)]) (q138 x F)) (q138 x F) ∧ fo_vA λ(e : Unit) _ => crP x → fo_rI ((x.i : Int) + (↑(crV x).fst : Int)) ∧ fo_Bd ((x.i : Int) + (↑(crV x).fst : Int) > (x.s.size : Int)) (q51 x F) ((∃(a : CrS), q342 a x ∧ (fo_vs x.s = fo_vs x.s ∧ fo_vi ↑x.i = fo_vi ↑x.i ∧ fo_vi (↑(crV x).fst : Int) = fo_vi (↑(crV x).fst : Int) ∧ fo_vi (↑(crV x).snd.fst : Int) = fo_vi ↑a.c ∧ fo_vi (↑(crV x).snd.snd : Int) = fo_vi (↑(crV x).snd.snd : Int) ∧ fo_vi 1 = fo_vi ↑a.k ∧ True) ∧ Ent [(0, F)] [(0, F)]) ∧ fo_vA λ(c : CrS) _ => q342 c x → fo_Bd ((c.k : Int) < (↑(crV x).fst : Int)) (fo_rI ((x.i : Int) + (c.k : Int)) ∧ (0 ≤ (x.i : Int) + (c.k : Int) ∧ (x.i : Int) + (c.k : Int) < (x.s.size : Int)) ∧ fo_rI (byteAt x.s ((x.i : Int) + (c.k : Int))) ∧ fo_Bd (byteAt x.s ((x.i : Int) + (c.k : Int)) < 128) (q51 x F) (fo_Bd (byteAt x.s ((x.i : Int) + (c.k : Int)) ≥ 192) (q51 x F) (fo_rI ((c.c : Int) * 64) ∧ fo_rI ((c.c : Int) * 64 + byteAt x.s ((x.i : Int) + (c.k : Int))) ∧ fo_rI ((c.c : Int) * 64 + byteAt x.s ((x.i : Int) + (c.k : Int)) - 128) ∧ fo_rI ((c.k : Int) + 1) ∧ ∃(a : CrS), q342 a x ∧ (fo_vs x.s = fo_vs x.s ∧ fo_vi ↑x.i = fo_vi ↑x.i ∧ fo_vi (↑(crV x).fst : Int) = fo_vi (↑(crV x).fst : Int) ∧ fo_vi ((c.c : Int) * 64 + byteAt x.s ((x.i : Int) + (c.k : Int)) - 128) = fo_vi ↑a.c ∧ fo_vi (↑(crV x).snd.snd : Int) = fo_vi (↑(crV x).snd.snd : Int) ∧ fo_vi ((c.k : Int) + 1) = fo_vi ↑a.k ∧ True) ∧ Ent [(0, F)] [(0, F)] ∧ (crV x).fst - a.k < (crV x).fst - c.k))) (fo_Bd ((c.c : Int) < (↑(crV x).snd.snd : Int)) (q51 x F) (fo_Bd ((c.c : Int) > 1114111) (q51 x F) (fo_Bd ((c.c : Int) ≥ 55296) (fo_Bd ((c.c : Int) < 57344) (q51 x F) (q329 x F c)) (q329 x F c))))))) := by
  delta q275 q51 T119 q19 q138 q342 q329 fo_rI fo_vi fo_vs fo_Bd fo_rt fo_vA
  obtain ⟨s, i⟩ := x
  obtain ⟨hs, hi⟩ := hc
  dsimp only at hs hi ⊢
  have eNul : ∀ k : Nat, byteAt s (k : Int) = (bt s k : Int) := λk => by rw [byteAt_bt, fo_tn]
  have e1 : ∀ k : Nat, byteAt s ((i : Int) + (k : Int)) = (bt s (i + k) : Int) := λk => by rw [byteAt_bt, show ((i : Int) + (k : Int)).toNat = i + k by omega]
  have fin : ∀ (p : Option (Nat × Nat)), chV s i = p → Done crC ⟨s, i⟩ F (returned (tuple #[.int .i64 (p.getD (0, 0)).1, .int .i64 (p.getD (0, 0)).2])) [(0, F)] := λp h => ⟨(), fo_tv, by subst h; rfl, Ent.pick [0] rfl rfl⟩
  rw [eNul]
  refine br_decide (λh => fin none (chV_end (by omega))) (λh => ⟨⟨by omega, by omega⟩, ⟨by have := bt_lt' s i; omega, by have := bt_lt' s i; omega⟩, br_decide (λh8 => fin (some (bt s i, 1)) (chV_asc (by omega) (by omega))) (λh8 => ⟨?_, ?_⟩)⟩)
  · have hlt : i < s.size := by omega
    have h8 : 128 ≤ bt s i := by omega
    have hhi := chV_hi hlt h8
    have hb := bt_lt' s i
    have leaf : ∀ (N c L : Nat) (C : Int), chL (bt s i) = (N, c, L) → N ≠ 0 → C = (c : Int) → ∃ (_ : Unit), crP ⟨s, i⟩ ∧ (string s = string s ∧ int .i64 (i : Int) = int .i64 (i : Int) ∧ int .i64 (N : Int) = int .i64 ((crV ⟨s, i⟩).1 : Int) ∧ int .i64 C = int .i64 ((crV ⟨s, i⟩).2.1 : Int) ∧ int .i64 (L : Int) = int .i64 ((crV ⟨s, i⟩).2.2 : Int) ∧ True) ∧ Ent [(0, F)] [(0, F)] := by
      intro N c L C h1 h2 h3
      have h1 : crV ⟨s, i⟩ = (N, c, L) := h1
      exact ⟨(), ⟨hlt, h8, by rw [h1]; exact h2⟩, ⟨rfl, rfl, by rw [h1], by rw [h1, h3], by rw [h1], fo_tv⟩, Ent.pick [0] rfl rfl⟩
    have none' : chL (bt s i) = (0, 0, 0) → chV s i = none := λh => by rw [hhi, h] <;> rfl
    repeat' refine br_decide (λ_ => ?_) (λ_ => ?_)
    all_goals first
      | exact ⟨⟨by omega, by omega⟩, leaf 2 _ 128 _ (chL2 (by omega)) (by decide) (by omega)⟩
      | exact ⟨⟨by omega, by omega⟩, leaf 3 _ 2048 _ (chL3 (by omega)) (by decide) (by omega)⟩
      | exact ⟨⟨by omega, by omega⟩, leaf 4 _ 65536 _ (chL4 (by omega)) (by decide) (by omega)⟩
      | exact fin none (none' (chL0 (by omega)))
  rintro _ js ⟨hlt, h8, hn⟩
  dsimp only at hlt h8
  have hhi := chV_hi hlt h8
  obtain ⟨l1, l2, l3⟩ := chL_le (bt s i)
  have l2 := l2 (bt_lt' s i)
  have hP : crP ⟨s, i⟩ := ⟨hlt, h8, hn⟩
  have hn0 : ((chL (bt s i)).1 == 0) = false := fo_bf.2 hn
  rw [hn0, fo_cf] at hhi
  have hcr : crV ⟨s, i⟩ = chL (bt s i) := rfl
  rw [hcr]
  refine ⟨⟨by omega, by omega⟩, br_decide (λh => fin none (by rw [hhi, fo_dt (show i + (chL (bt s i)).1 > s.size by omega)] <;> rfl)) (λh => ?_)⟩
  have hle : i + (chL (bt s i)).1 ≤ s.size := by omega
  rw [fo_df (show ¬ i + (chL (bt s i)).1 > s.size by omega), fo_cf] at hhi
  refine ⟨⟨⟨1, (chL (bt s i)).2.1, 4⟩, ⟨⟨fo_nr _, Nat.pos_of_ne_zero hn, by dsimp only; omega, l2, rfl⟩, hP, hle⟩, ⟨rfl, rfl, rfl, rfl, rfl, rfl, fo_tv⟩, Ent.pick [0] rfl rfl⟩, ?_⟩
  rintro ⟨k, c, f⟩ js ⟨⟨k1, kn, hf, hc, he⟩, -, -⟩
  dsimp only at k1 kn hf hc he ⊢
  rw [he] at hhi
  have hk4 : 64 ^ k ≤ 64 ^ 4 := fo_pp (by decide) (by omega)
  have h64 : (64 : Nat) ^ 4 = 16777216 := by decide
  rw [h64] at hk4
  have hp : 64 ^ (k + 1) = 64 ^ k * 64 := Nat.pow_succ ..
  have hx := bt_lt' s (i + k)
  rw [e1]
  refine br_decide (λh => ⟨⟨by omega, by omega⟩, ⟨by omega, by omega⟩, ⟨by omega, by omega⟩, ?_⟩) (λh => ?_)
  · obtain ⟨f', rfl⟩ : ∃ f', f = f' + 1 := ⟨f - 1, by omega⟩
    have st : chT s i (chL (bt s i)).1 (chL (bt s i)).2.2 (f' + 1) k c = bif decide (bt s (i + k) < 128) || decide (192 ≤ bt s (i + k)) then none else chT s i (chL (bt s i)).1 (chL (bt s i)).2.2 f' (k + 1) (c * 64 + bt s (i + k) - 128) := by
      rw [chT, fo_dt (show k < (chL (bt s i)).1 by omega), fo_ct]
    rw [st] at hhi he
    refine br_decide (λh1 => fin none (by rw [hhi, fo_dt (show bt s (i + k) < 128 by omega)] <;> rfl)) (λh1 => br_decide (λh2 => fin none (by rw [hhi, fo_dt (show 192 ≤ bt s (i + k) by omega), fo_bot] <;> rfl)) (λh2 => ?_))
    rw [fo_df (show ¬ bt s (i + k) < 128 by omega), fo_df (show ¬ 192 ≤ bt s (i + k) by omega), Bool.or_false, fo_cf] at he
    exact ⟨⟨by omega, by omega⟩, ⟨by omega, by omega⟩, ⟨by omega, by omega⟩, ⟨by omega, by omega⟩, ⟨k + 1, c * 64 + bt s (i + k) - 128, f'⟩, ⟨⟨by dsimp only; omega, by dsimp only; omega, by dsimp only; omega, by dsimp only; omega, he⟩, hP, hle⟩, ⟨rfl, rfl, rfl, by dsimp only; congr 1; omega, rfl, rfl, fo_tv⟩, Ent.pick [0] rfl rfl, by dsimp only; omega⟩
  · have hk : k = (chL (bt s i)).1 := by omega
    have hT : chT s i (chL (bt s i)).1 (chL (bt s i)).2.2 f k c = chE (chL (bt s i)).2.2 c := by
      cases f with
      | zero => rfl
      | succ f => rw [chT, fo_df (show ¬ k < (chL (bt s i)).1 by omega), fo_cf]
    rw [hT] at hhi
    have bad : chE (chL (bt s i)).2.2 c = none → chV s i = none := λh => by rw [hhi, h] <;> rfl
    have good : chE (chL (bt s i)).2.2 c = some c → chV s i = some (c, (chL (bt s i)).1) := λh => by rw [hhi, h] <;> rfl
    generalize hB : decide ((c : Int) > 1114111) = bB
    generalize hG : decide ((c : Int) ≥ 55296) = bG
    generalize hD : decide ((c : Int) < 57344) = bD
    refine br_decide (λa => fin none (bad (chE_lt (by omega)))) (λa => ?_)
    cases bB with
    | true => have hB := fo_od1 hB; rw [br_true]; exact fin none (bad (chE_gt (by omega)))
    | false =>
      have hB := fo_od0 hB
      rw [br_false]
      cases bG with
      | false => have hG := fo_od0 hG; rw [br_false]; exact fin _ (good (chE_ok (by omega)))
      | true =>
        have hG := fo_od1 hG
        rw [br_true]
        cases bD with
        | true => have hD := fo_od1 hD; rw [br_true]; exact fin none (bad (chE_su (by omega)))
        | false => have hD := fo_od0 hD; rw [br_false]; exact fin _ (good (chE_ok (by omega)))
theorem cr_ok : fo_k 64 crC := fo 96 Tryz.func64 (λ_ _ => []) [] crInv crCut fo_o [] cr_vc
end
section
open Go
set_option maxHeartbeats 1000000
abbrev wdrC : Con where
  X := WdX
  Y := Int
  args x := [.string x.s]
  pre _ := []
  cond x := x.s.size ≤ 262144
  rdc _ _ := True
  rel _ _ := True
  val x y := .returned (.tuple #[.string (wideV x.s), .int .i64 y, .int .i64 (bif okV x.s then 0 else 10)])
  post _ _ := []
structure WrS where
  i : Nat
  f : Nat
  o : List Nat
structure WrS.ok (d : WrS) (s : ByteArray) : Prop where
  hi : d.i ≤ s.size
  hf : s.size < d.i + d.f
  hz : d.o.length ≤ 4 * d.i
  hw : wideV s = btL (wideF s d.f d.i d.o)
  hv : okV s = okF s d.f d.i
def wdrInv (x : WdX) (F : Atom) : Nat → Option Inv := fun
  | 0 => some { X := WrS, P := λd => d.ok x.s, mu := λd => x.s.size - d.i, lv := λd => [(0, .string x.s), (5, .string (btL d.o)), (6, .int .i64 d.i)], st := λ_ => [F] }
  | _ => none
theorem okF_end {s : ByteArray} {f i : Nat} (h : ¬ i < s.size) : okF s f i = true := by
  cases f with
  | zero => rfl
  | succ f => rw [okF, fo_df h] <;> rfl
theorem wideF_end {s : ByteArray} {f i : Nat} {o : List Nat} (h : ¬ i < s.size) : wideF s f i o = o := by
  cases f with
  | zero => rfl
  | succ f => rw [wideF, fo_df h] <;> rfl
abbrev q341 (i : CrX) : List Value := [fo_vi ((↑((chV i.s i.i).getD (0, 0)).fst : Int) - 65536), fo_vi 1024]
def T120 := fo_C1 65 unC (λw0 => w0.u < 65536)
def T121 (e0 : WdX) (e1 : Atom) (v0 v1 : Value) (ss : St) (mm : Nat) := ∃ (z : WrS), z.ok e0.s ∧ (fo_vs e0.s = fo_vs e0.s ∧ v0 = fo_vs (btL z.o) ∧ v1 = fo_vi ↑z.i ∧ True) ∧ Ent ss [(0, e1)] ∧ e0.s.size - z.i < mm
theorem wdr_vc (x : WdX) (F : Atom) (hc : wdrC.cond x) (hr : wdrC.rdc x F) :
 (∃(a : WrS), a.ok x.s ∧ (fo_vs x.s = fo_vs x.s ∧ fo_vs ⟨#[]⟩ = fo_vs (btL a.o) ∧ fo_vi 0 = fo_vi ↑a.i ∧ True) ∧ Ent [(0, F)] [(0, F)]) ∧ fo_vA λ(k : WrS) _ => k.ok x.s → fo_Bd ((k.i : Int) < (x.s.size : Int)) (fo_C1 64 crC (λi => i.s.size ≤ 1048576 ∧ i.i ≤ i.s.size) [fo_vs x.s, fo_vi ↑k.i] (λi h => Br ((↑((chV i.s i.i).getD (0, 0)).snd : Int) == 0) (Done wdrC x F (fo_rt (tuple ⟨[fo_vs ⟨#[]⟩, fo_vi ↑k.i, fo_vi 10]⟩)) [(0, F)]) (fo_Bd ((↑((chV i.s i.i).getD (0, 0)).fst : Int) ≥ 65536) (fo_rI ((↑((chV i.s i.i).getD (0, 0)).fst : Int) - 65536) ∧ QOpOk Tryz.prog (opIn Tryz.f20 8 3) (dvN 1024) ∧ ∃(g : Nat), (q341 i) = [fo_vi ↑g, fo_vi (↑(1024 : Nat) : Int)] ∧ (g < 4611686018427387904 ∧ 0 < 1024) ∧ fo_rI (55296 + (↑(g / 1024) : Int)) ∧ T120 [fo_vi (55296 + (↑(g / 1024) : Int))] (λf e => (btL k.o).size + (btL [f.u / 256, f.u % 256]).size ≤ 9223372036854775807 ∧ fo_rI ((↑((chV i.s i.i).getD (0, 0)).fst : Int) - 65536) ∧ QOpOk Tryz.prog (opIn Tryz.f20 8 9) (mdN 1024) ∧ ∃(d : Nat), (q341 i) = [fo_vi ↑d, fo_vi (↑(1024 : Nat) : Int)] ∧ 0 < 1024 ∧ fo_rI (56320 + (↑(d % 1024) : Int)) ∧ T120 [fo_vi (56320 + (↑(d % 1024) : Int))] (λc b => (btL k.o ++ btL [f.u / 256, f.u % 256]).size + (btL [c.u / 256, c.u % 256]).size ≤ 9223372036854775807 ∧ fo_rI ((k.i : Int) + (↑((chV i.s i.i).getD (0, 0)).snd : Int)) ∧ T121 x F (fo_vs (btL k.o ++ btL [f.u / 256, f.u % 256] ++ btL [c.u / 256, c.u % 256])) (fo_vi ((k.i : Int) + (↑((chV i.s i.i).getD (0, 0)).snd : Int))) [(0, F)] (x.s.size - k.i)))) (T120 [fo_vi (↑((chV i.s i.i).getD (0, 0)).fst : Int)] (λc b => (btL k.o).size + (btL [c.u / 256, c.u % 256]).size ≤ 9223372036854775807 ∧ fo_rI ((k.i : Int) + (↑((chV i.s i.i).getD (0, 0)).snd : Int)) ∧ T121 x F (fo_vs (btL k.o ++ btL [c.u / 256, c.u % 256])) (fo_vi ((k.i : Int) + (↑((chV i.s i.i).getD (0, 0)).snd : Int))) [(0, F)] (x.s.size - k.i)))))) (Done wdrC x F (fo_rt (tuple ⟨[fo_vs (btL k.o), fo_vi 0, fo_vi 0]⟩)) [(0, F)]) := by
  delta q341 T120 T121 fo_rI fo_C1 fo_vi fo_vs fo_Bd fo_rt fo_vA
  obtain ⟨s⟩ := x
  have hs : s.size ≤ 262144 := hc
  dsimp only
  have fin : ∀ (w : ByteArray) (y : Int) (v : Bool), wideV s = w → okV s = v → Done wdrC ⟨s⟩ F (returned (tuple #[.string w, .int .i64 y, .int .i64 (bif v then 0 else 10)])) [(0, F)] := λw y v h1 h2 => by
    exact ⟨y, fo_tv, by subst h1 h2; rfl, Ent.pick [0] rfl rfl⟩
  refine ⟨⟨⟨0, s.size + 1, []⟩, ⟨fo_zl _, by dsimp only; omega, fo_nr _, rfl, rfl⟩, ⟨rfl, rfl, rfl, fo_tv⟩, Ent.pick [0] rfl rfl⟩, ?_⟩
  rintro ⟨i, f, o⟩ js ⟨hi, hf, hz, hw, hv⟩
  dsimp only at hi hf hz hw hv ⊢
  obtain ⟨f', rfl⟩ : ∃ f', f = f' + 1 := ⟨f - 1, by omega⟩
  have hsz := btL_size o
  refine br_decide (λh => ?_) (λh => ?_)
  · have hlt : i < s.size := by omega
    rw [wideF, fo_dt hlt, fo_ct] at hw
    rw [okF, fo_dt hlt, fo_ct] at hv
    refine ⟨cr_ok, rfl, ⟨s, i⟩, rfl, rfl, ⟨by dsimp only; omega, hi⟩, fo_tv, λ_ _ => ?_⟩
    rw [chV_next]
    have hnx := λc n => next_facts (s := s) (i := i) (c := c) (n := n)
    revert hw hv hnx
    generalize nextV s i = p
    intro hw hv hnx
    cases p with
    | none => exact br_intro (λ_ => fin _ _ false hw hv) (λq => by cases q)
    | some p =>
      obtain ⟨c, n⟩ := p
      obtain ⟨g1, g2, g3⟩ := hnx c n rfl
      dsimp only [Option.getD] at hw hv ⊢
      have hwc : c ≥ 65536 → wideC c = [(55296 + (c - 65536) / 1024) / 256, (55296 + (c - 65536) / 1024) % 256] ++ [(56320 + (c - 65536) % 1024) / 256, (56320 + (c - 65536) % 1024) % 256] := λq => by
        unfold wideC; rw [fo_dt (show c > 65535 by omega)] <;> rfl
      have hwd : ¬ c ≥ 65536 → wideC c = [c / 256, c % 256] := λq => by
        unfold wideC; rw [fo_df (show ¬ c > 65535 by omega)] <;> rfl
      have hl := (wdC_len c).1
      refine br_intro (λq => ?_) (λ_ => ?_)
      · rw [beq_iff_eq] at q; omega
      generalize hB : decide ((c : Int) ≥ 65536) = bB
      cases bB with
      | true =>
        have hB := fo_od1 hB
        rw [br_true]
        have hwc := hwc (by omega)
        rw [hwc] at hw hl
        have ec : (c : Int) - 65536 = ((c - 65536 : Nat) : Int) := by omega
        rw [ec]
        have d1 : (c - 65536) / 1024 ≤ 1024 := by omega
        have d2 : (c - 65536) % 1024 < 1024 := Nat.mod_lt _ (by decide)
        refine ⟨⟨by omega, by omega⟩, dvn_ok rfl, c - 65536, rfl, ⟨by omega, by decide⟩, ⟨by omega, by omega⟩, un_ok, rfl, ⟨55296 + (c - 65536) / 1024⟩, by congr 2, rfl, by dsimp only; omega, fo_tv, λ_ _ => ⟨by rw [hsz, btL_size]; simp only [fo_lc, List.length_nil]; omega, ⟨by omega, by omega⟩, mdn_ok rfl, c - 65536, rfl, by decide, ⟨by omega, by omega⟩, un_ok, rfl, ⟨56320 + (c - 65536) % 1024⟩, by congr 2, rfl, by dsimp only; omega, fo_tv, λ_ _ => ⟨by rw [fo_sa, hsz, btL_size, btL_size]; simp only [fo_lc, List.length_nil]; omega, ⟨by omega, by omega⟩, ⟨i + n, f', o ++ ([(55296 + (c - 65536) / 1024) / 256, (55296 + (c - 65536) / 1024) % 256] ++ [(56320 + (c - 65536) % 1024) / 256, (56320 + (c - 65536) % 1024) % 256])⟩, ⟨g1, by dsimp only; omega, by rw [fo_la]; dsimp only; omega, hw, hv⟩, ⟨rfl, by dsimp only; rw [btL_app, btL_app, fo_aa], rfl, fo_tv⟩, Ent.pick [0] rfl rfl, by dsimp only; omega⟩⟩⟩
      | false =>
        have hB := fo_od0 hB
        rw [br_false]
        have hwd := hwd (by omega)
        rw [hwd] at hw hl
        exact ⟨un_ok, rfl, ⟨c⟩, rfl, rfl, by dsimp only; omega, fo_tv, λ_ _ => ⟨by rw [hsz, btL_size]; simp only [fo_lc, List.length_nil]; omega, ⟨by omega, by omega⟩, ⟨i + n, f', o ++ [c / 256, c % 256]⟩, ⟨g1, by dsimp only; omega, by rw [fo_la]; dsimp only; omega, hw, hv⟩, ⟨rfl, by dsimp only; rw [btL_app], rfl, fo_tv⟩, Ent.pick [0] rfl rfl, by dsimp only; omega⟩⟩
  · exact fin _ _ true (by rw [hw, wideF_end (by omega)]) (by rw [hv, okF_end (by omega)])
theorem wdr_ok : fo_k 20 wdrC := fo 45 Tryz.func20 (λ_ _ => [(4, 2, .c crC [] []), (8, 3, .qo (dvN 1024)), (8, 5, .c unC [] []), (8, 9, .qo (mdN 1024)), (8, 11, .c unC [] []), (9, 2, .c unC [] [])]) [] wdrInv fo_i fo_o [] wdr_vc
def ofV (s : ByteArray) : ByteArray := btL ((natsOf s).flatMap λc => [0, c])
abbrev ofC : Con where
  X := WdX
  Y := Unit
  args x := [.string x.s]
  pre _ := []
  cond x := x.s.size ≤ 1048576
  rdc _ _ := True
  rel _ _ := True
  val x _ := .returned (.string (ofV x.s))
  post _ _ := []
def ofInv (x : WdX) (F : Atom) : Nat → Option Inv := fun
  | 0 => some { X := Nat, P := λi => i ≤ x.s.size, mu := λi => x.s.size - i, lv := λi => [(0, .string x.s), (3, .string (btL (((natsOf x.s).take i).flatMap λc => [0, c]))), (4, .int .i64 i)], st := λ_ => [F] }
  | _ => none
theorem of_vc (x : WdX) (F : Atom) (hc : ofC.cond x) (hr : ofC.rdc x F) :
 (∃(b : Nat), b ≤ x.s.size ∧ (fo_vs x.s = fo_vs x.s ∧ fo_vs ⟨#[]⟩ = fo_vs (btL (List.flatMap (λ(a : Nat) => [0, a]) (List.take b (natsOf x.s)))) ∧ fo_vi 0 = fo_vi ↑b ∧ True) ∧ Ent [(0, F)] [(0, F)]) ∧ fo_vA λ(f : Nat) _ => f ≤ x.s.size → fo_Bd ((f : Int) < (x.s.size : Int)) ((0 ≤ (f : Int) ∧ (f : Int) < (x.s.size : Int)) ∧ fo_rI (byteAt x.s (f : Int)) ∧ T120 [fo_vi (byteAt x.s (f : Int))] (λd c => (btL (List.flatMap (λ(a : Nat) => [0, a]) (List.take f (natsOf x.s)))).size + (btL [d.u / 256, d.u % 256]).size ≤ 9223372036854775807 ∧ fo_rI ((f : Int) + (1 : Int)) ∧ ∃(b : Nat), b ≤ x.s.size ∧ (fo_vs x.s = fo_vs x.s ∧ fo_vs (btL (List.flatMap (λ(a : Nat) => [0, a]) (List.take f (natsOf x.s))) ++ btL [d.u / 256, d.u % 256]) = fo_vs (btL (List.flatMap (λ(a : Nat) => [0, a]) (List.take b (natsOf x.s)))) ∧ fo_vi ((f : Int) + (1 : Int)) = fo_vi ↑b ∧ True) ∧ Ent [(0, F)] [(0, F)] ∧ x.s.size - b < x.s.size - f)) (Done ofC x F (fo_rt (fo_vs (btL (List.flatMap (λ(a : Nat) => [0, a]) (List.take f (natsOf x.s)))))) [(0, F)]) := by
  delta T120 fo_rI fo_C1 fo_vi fo_vs fo_Bd fo_rt fo_vA
  obtain ⟨s⟩ := x
  have hs : s.size ≤ 1048576 := hc
  dsimp only
  have hl : (natsOf s).length = s.size := by unfold natsOf; rw [List.length_map] <;> rfl
  refine ⟨⟨0, fo_zl _, ⟨rfl, rfl, rfl, fo_tv⟩, Ent.pick [0] rfl rfl⟩, ?_⟩
  intro i js hi
  have hz : (((natsOf s).take i).flatMap λc => [0, c]).length ≤ 2 * i := by
    have : ∀ l : List Nat, (l.flatMap λc => [0, c]).length = 2 * l.length := by
      intro l
      induction l with
      | nil => rfl
      | cons a l ih => rw [List.flatMap_cons, fo_la, ih, fo_lc]; simp only [fo_lc, List.length_nil]; omega
    rw [this]
    have := List.length_take_le i (natsOf s)
    omega
  refine br_decide (λh => ?_) (λh => ?_)
  · have hlt : i < s.size := by omega
    have eNul : byteAt s (i : Int) = (bt s i : Int) := by rw [byteAt_bt, fo_tn]
    have hb := bt_lt' s i
    rw [eNul]
    refine ⟨⟨by omega, by omega⟩, ⟨by omega, by omega⟩, un_ok, rfl, ⟨bt s i⟩, rfl, rfl, by dsimp only; omega, fo_tv, λ_ _ => ⟨by rw [btL_size, btL_size]; simp only [fo_lc, List.length_nil]; omega, ⟨by omega, by omega⟩, i + 1, hlt, ⟨rfl, ?_, rfl, fo_tv⟩, Ent.pick [0] rfl rfl, by omega⟩⟩
    have hg : (natsOf s)[i]? = some (bt s i) := by
      unfold natsOf bt
      rw [fo_gm, Array.getElem?_toList]
      cases hq : s.data[i]? with
      | none => rw [Array.getElem?_eq_none_iff] at hq; have e : s.data.size = s.size := rfl; omega
      | some b => rfl
    rw [List.take_succ, hg, Option.toList_some, List.flatMap_append, ← btL_app, Nat.div_eq_of_lt hb, Nat.mod_eq_of_lt hb] <;> rfl
  · refine ⟨(), fo_tv, ?_, Ent.pick [0] rfl rfl⟩
    show _ = returned (.string (ofV s))
    unfold ofV
    rw [List.take_of_length_le (by omega)]
theorem of_ok : fo_k 160 ofC := fo 19 Tryz.func160 (λ_ _ => [(5, 5, .c unC [] [])]) [] ofInv fo_i fo_o [] of_vc
end
section
open Go
set_option maxHeartbeats 1000000
abbrev rtC : Con where
  X := WdX
  Y := Unit
  args x := [.string x.s]
  pre _ := []
  cond x := x.s.size ≤ 262144
  rdc _ _ := True
  rel _ _ := True
  val x _ := .returned (.bool (okV x.s))
  post _ _ := []
abbrev q383 : WdX → Prop := λw0 => w0.s.size ≤ 262144
def T122 := fo_C1 20 wdrC q383
theorem rt_vc (x : WdX) (F : Atom) (hc : rtC.cond x) (hr : rtC.rdc x F) :
 T122 [fo_vs x.s] (λb a => Done rtC x F (fo_rt (fo_vb ((bif okV b.s then (0 : Int) else (10 : Int)) == 0))) [(0, F)]) := by
  delta q383 T122 fo_C1 fo_vs fo_vb fo_rt
  refine ⟨wdr_ok, rfl, ⟨x.s⟩, rfl, rfl, hc, fo_tv, λy _ => ⟨(), fo_tv, ?_, Ent.pick [0] rfl rfl⟩⟩
  show _ = returned (.bool (okV x.s))
  dsimp only
  cases okV x.s <;> rfl
theorem rt_ok : fo_k 59 rtC := fo 14 Tryz.func59 (λ_ _ => [(1, 1, .c wdrC [] [])]) [] fo_i fo_i fo_o [] rt_vc
abbrev t1C : Con where
  X := WdX
  Y := Unit
  args x := [.string x.s]
  pre _ := []
  cond x := True
  rdc _ _ := True
  rel _ _ := True
  val x _ := .returned (.agg #[.int .i64 4, .float .f64 0, .string x.s, .int .i64 0])
  post _ _ := []
abbrev at4 (j : Nat) : List LH := [.aq j, .aq j, .aq j, .aq j]
abbrev q164 (x : WdX) : List Value := [fo_vi 4, float f64 0, fo_vs x.s, fo_vi 0]
theorem t1_vc (x : WdX) (F : Atom) (hc : t1C.cond x) (hr : t1C.rdc x F) :
 ∀(a : Nat), fo_sm a 0 ∧ fo_sm a 1 ∧ fo_sm a 2 ∧ fo_sm a 3 ∧ fo_sm a 0 ∧ fo_sm a 1 ∧ fo_sm a 2 ∧ fo_sm a 3 ∧ Done t1C x F (fo_rt (agg ⟨q164 x⟩)) [(0, F), (1, fo_cl a (q164 x) 30)] := by
  delta q164 fo_sm fo_vi fo_vs fo_cl fo_rt
  intro b
  repeat refine ⟨⟨rfl, rfl⟩, ?_⟩
  exact ⟨(), fo_tv, rfl, Ent.pick [0] rfl rfl⟩
theorem t1_ok : fo_k 108 t1C := fo 5 Tryz.func108 (λ_ _ => [(0, 0, .n 1), (1, 2, .w (at4 1))]) [] fo_i fo_i fo_o [LH.aq 1, LH.aq 1, LH.aq 1, LH.aq 1] t1_vc
abbrev t2C : Con where
  X := WdX
  Y := Unit
  args x := [.string x.s]
  pre _ := []
  cond x := x.s.size ≤ 262144
  rdc _ _ := True
  rel _ _ := True
  val x _ := .returned (.agg #[.int .i64 4, .float .f64 0, .string (wideV x.s), .int .i64 0])
  post _ _ := []
def T123 := fo_C0 108 t1C
theorem t2_vc (x : WdX) (F : Atom) (hc : t2C.cond x) (hr : t2C.rdc x F) :
 ∀(e : Nat), T122 [fo_vs x.s] (λd c => T123 [fo_vs (wideV d.s)] (λb a => fo_sm e 0 ∧ fo_sm e 1 ∧ fo_sm e 2 ∧ fo_sm e 3 ∧ fo_sm e 0 ∧ fo_sm e 1 ∧ fo_sm e 2 ∧ fo_sm e 3 ∧ Done t2C x F (fo_rt (agg ⟨q164 b⟩)) [(0, F), (1, fo_cl e (q164 b) 30)])) := by
  delta q383 T122 T123 q164 fo_sm fo_C0 fo_C1 fo_vi fo_vs fo_cl fo_rt
  intro b
  refine ⟨wdr_ok, rfl, ⟨x.s⟩, rfl, rfl, hc, fo_tv, λy _ => ⟨t1_ok, rfl, ⟨wideV x.s⟩, rfl, rfl, fo_tv, fo_tv, λ_ _ => ?_⟩⟩
  repeat refine ⟨⟨rfl, rfl⟩, ?_⟩
  exact ⟨(), fo_tv, rfl, Ent.pick [0] rfl rfl⟩
theorem t2_ok : fo_k 61 t2C := fo 14 Tryz.func61 (λ_ _ => [(0, 0, .n 1), (1, 1, .c wdrC [] []), (2, 1, .c t1C [] []), (2, 2, .w (at4 1))]) [] fo_i fo_i fo_o [LH.aq 1, LH.aq 1, LH.aq 1, LH.aq 1] t2_vc
abbrev w1C : Con where
  X := WdX
  Y := Unit
  args x := [.string x.s]
  pre _ := []
  cond x := x.s.size ≤ 1048576
  rdc _ _ := True
  rel _ _ := True
  val x _ := .returned (.string (ofV x.s))
  post _ _ := []
def T124 := fo_C1 160 ofC q223
theorem w1_vc (x : WdX) (F : Atom) (hc : w1C.cond x) (hr : w1C.rdc x F) :
 T124 [fo_vs x.s] (λb a => Done w1C x F (fo_rt (fo_vs (ofV b.s))) [(0, F)]) := by
  delta q223 T124 fo_C1 fo_vs fo_rt
  exact ⟨of_ok, rfl, ⟨x.s⟩, rfl, rfl, hc, fo_tv, λy _ => ⟨(), fo_tv, rfl, Ent.pick [0] rfl rfl⟩⟩
theorem w1_ok : fo_k 201 w1C := fo 5 Tryz.func201 (λ_ _ => [(1, 1, .c ofC [] [])]) [] fo_i fo_i fo_o [] w1_vc
theorem sm4_vc (x : PUnit) (F : Atom) (hc : smC.cond x) (hr : smC.rdc x F) :
 T43 (opIn Tryz.f159 1 2) q288 (λa => Br (fcV BinOp.neq a.fst a.snd) (Done smC x F (fo_rt (fo_vb (f64.format.order 0 0 != some Ordering.eq))) [(0, F)]) (Done smC x F (fo_rt (fo_vb ((↑(0 : Nat) : Int) == (↑(0 : Nat) : Int)))) [(0, F)])) := by
  delta T43 q288 fo_vb fo_rt
  refine ⟨fc_ok (by simp) rfl, (0, 0), rfl, fo_tv, br_intro (λh => absurd h (by decide +kernel)) (λ_ => ⟨(), fo_tv, rfl, Ent.pick [0] rfl rfl⟩)⟩
theorem sm4_ok : fo_k 159 smC := fo 16 Tryz.func159 (λ_ _ => [(1, 2, .qo (fcQ .neq)), (3, 1, .q []), (3, 3, .q [])]) [] fo_i fo_i fo_o [] sm4_vc
structure ByX where
  c : Nat
abbrev sxrC : Con where
  X := ByX
  Y := Unit
  args x := [.int .u8 x.c]
  pre _ := []
  cond x := x.c < 256
  rdc _ _ := True
  rel _ _ := True
  val x _ := .returned (.int .i64 (sx x.c))
  post _ _ := []
theorem w8 {c : Nat} (k : Nat) (h : k ≤ c) (hc : c < 256) : u8.wrap ((c : Int) - (k : Int)) = (c : Int) - (k : Int) := wrap_in (by simp only [inR]; omega)
theorem sx_1 {c : Nat} (h : 48 ≤ c ∧ c ≤ 57) : sx c = (c : Int) - 48 := by unfold sx; rw [fo_dt h.1, fo_dt h.2] <;> rfl
theorem sx_2 {c : Nat} (h : 97 ≤ c ∧ c ≤ 102) : sx c = (c : Int) - 97 + 10 := by
  unfold sx; rw [fo_df (show ¬ c ≤ 57 by omega), fo_baf, fo_cf, fo_dt h.1, fo_dt h.2]
  show (c : Int) - 87 = _; omega
theorem sx_3 {c : Nat} (h : 65 ≤ c ∧ c ≤ 70) : sx c = (c : Int) - 65 + 10 := by
  unfold sx; rw [fo_df (show ¬ c ≤ 57 by omega), fo_baf, fo_cf, fo_df (show ¬ 97 ≤ c by omega), fo_fba, fo_cf, fo_dt h.1, fo_dt h.2]
  show (c : Int) - 55 = _; omega
theorem sx_0 {c : Nat} (h : ¬ (48 ≤ c ∧ c ≤ 57) ∧ ¬ (97 ≤ c ∧ c ≤ 102) ∧ ¬ (65 ≤ c ∧ c ≤ 70)) : sx c = -1 := by
  unfold sx
  rw [← Bool.decide_and, ← Bool.decide_and, ← Bool.decide_and, fo_df h.1, fo_df h.2.1, fo_df h.2.2] <;> rfl
def q21 (x : ByX) (F : Atom) := fo_Bd ((x.c : Int) ≥ 65) (fo_Bd ((x.c : Int) ≤ 70) (fo_rI (u8.wrap ((x.c : Int) - 65)) ∧ fo_rI (u8.wrap ((x.c : Int) - 65) + 10) ∧ Done sxrC x F (fo_rt (fo_vi (u8.wrap ((x.c : Int) - 65) + 10))) [(0, F)]) (Done sxrC x F q79 [(0, F)])) (Done sxrC x F q79 [(0, F)])
def q117 (x : ByX) (F : Atom) := fo_Bd ((x.c : Int) ≥ 97) (fo_Bd ((x.c : Int) ≤ 102) (fo_rI (u8.wrap ((x.c : Int) - 97)) ∧ fo_rI (u8.wrap ((x.c : Int) - 97) + 10) ∧ Done sxrC x F (fo_rt (fo_vi (u8.wrap ((x.c : Int) - 97) + 10))) [(0, F)]) (q21 x F)) (q21 x F)
theorem sxr_vc (x : ByX) (F : Atom) (hc : sxrC.cond x) (hr : sxrC.rdc x F) :
 fo_Bd ((x.c : Int) ≥ 48) (fo_Bd ((x.c : Int) ≤ 57) (fo_rI (u8.wrap ((x.c : Int) - 48)) ∧ Done sxrC x F (fo_rt (fo_vi (u8.wrap ((x.c : Int) - 48)))) [(0, F)]) (q117 x F)) (q117 x F) := by
  delta q79 q21 q117 fo_rI fo_vi fo_Bd fo_rt
  obtain ⟨c⟩ := x
  have hc : c < 256 := hc
  dsimp only
  have fin : ∀ v : Int, sx c = v → Done sxrC ⟨c⟩ F (returned (int .i64 v)) [(0, F)] := λv h => ⟨(), fo_tv, by subst h; rfl, Ent.pick [0] rfl rfl⟩
  have h1 : 48 ≤ c → u8.wrap ((c : Int) - 48) = (c : Int) - 48 := λh => w8 48 h hc
  have h2 : 97 ≤ c → u8.wrap ((c : Int) - 97) = (c : Int) - 97 := λh => w8 97 h hc
  have h3 : 65 ≤ c → u8.wrap ((c : Int) - 65) = (c : Int) - 65 := λh => w8 65 h hc
  repeat' refine br_decide (λ_ => ?_) (λ_ => ?_)
  all_goals first
    | exact fin _ (sx_0 (by omega))
    | (rw [h1 (by omega)]; exact ⟨⟨by omega, by omega⟩, fin _ (sx_1 (by omega))⟩)
    | (rw [h2 (by omega)]; exact ⟨⟨by omega, by omega⟩, ⟨by omega, by omega⟩, fin _ (sx_2 (by omega))⟩)
    | (rw [h3 (by omega)]; exact ⟨⟨by omega, by omega⟩, ⟨by omega, by omega⟩, fin _ (sx_3 (by omega))⟩)
theorem sxr_ok : fo_k 157 sxrC := fo 32 Tryz.func157 (λ_ _ => []) [] fo_i fo_i fo_o [] sxr_vc
abbrev ibC3 : Con where
  X := CrX
  Y := Unit
  args x := [.string (btL [bt x.s x.i])]
  pre _ := []
  cond x := True
  rdc _ _ := True
  rel _ _ := True
  val x _ := .returned (.bool (blk4 (bt x.s x.i)))
  post _ _ := []
def ib3Inv (x : CrX) (F : Atom) : Nat → Option Inv := fun
  | 0 => some { X := Nat, P := λi => i ≤ 1 ∧ (i = 1 → blk4 (bt x.s x.i) = true), mu := λi => 1 - i, lv := λi => [(0, .string (btL [bt x.s x.i])), (3, .int .i64 i)], st := λ_ => [F] }
  | _ => none
def q202 (c : Nat) (x : CrX) := 0 ≤ (c : Int) ∧ (c : Int) < (↑(btL [bt x.s x.i]).size : Int)
def T125 (e0 : CrX) (e1 : Atom) (v0 : Value) (ss : St) (mm : Nat) := ∃ (z : Nat), (z ≤ 1 ∧ (z = 1 → blk4 (bt e0.s e0.i) = true)) ∧ (fo_vs (btL [bt e0.s e0.i]) = fo_vs (btL [bt e0.s e0.i]) ∧ v0 = fo_vi ↑z ∧ True) ∧ Ent ss [(0, e1)] ∧ 1 - z < mm
def q157 (c : Nat) (x : CrX) (F : Atom) := fo_rI ((c : Int) + (1 : Int)) ∧ T125 x F (fo_vi ((c : Int) + (1 : Int))) [(0, F)] (1 - c)
theorem ib3_vc (x : CrX) (F : Atom) (hc : ibC3.cond x) (hr : ibC3.rdc x F) :
 (∃(a : Nat), (a ≤ 1 ∧ (a = 1 → blk4 (bt x.s x.i) = true)) ∧ (fo_vs (btL [bt x.s x.i]) = fo_vs (btL [bt x.s x.i]) ∧ fo_vi 0 = fo_vi ↑a ∧ True) ∧ Ent [(0, F)] [(0, F)]) ∧ fo_vA λ(c : Nat) _ => (c ≤ 1 ∧ (c = 1 → blk4 (bt x.s x.i) = true)) → fo_Bd ((c : Int) < (↑(btL [bt x.s x.i]).size : Int)) (q202 c x ∧ Br (byteAt (btL [bt x.s x.i]) (c : Int) != (9 : Int)) (q202 c x ∧ Br (byteAt (btL [bt x.s x.i]) (c : Int) != (10 : Int)) (q202 c x ∧ Br (byteAt (btL [bt x.s x.i]) (c : Int) != (13 : Int)) (q202 c x ∧ Br (byteAt (btL [bt x.s x.i]) (c : Int) != (32 : Int)) (Done ibC3 x F q87 [(0, F)]) (q157 c x F)) (q157 c x F)) (q157 c x F)) (q157 c x F)) (Done ibC3 x F q285 [(0, F)]) := by
  delta q202 q87 T125 q157 q285 fo_rI fo_vi fo_vs fo_vb fo_Bd fo_rt fo_vA
  obtain ⟨s, k⟩ := x
  dsimp only
  have hu := bt_lt' s k
  generalize hb : bt s k = u at hu
  have hsz : (btL [u]).size = 1 := rfl
  have eNul : byteAt (btL [u]) (0 : Nat) = (u : Int) := by rw [byteAt_bt, fo_tn, bt_btL (λb hb => by rw [List.mem_singleton.1 hb]; exact hu)] <;> rfl
  have fin : ∀ v, blk4 u = v → Done ibC3 ⟨s, k⟩ F (returned (bool v)) [(0, F)] := λv h => ⟨(), fo_tv, by subst h; subst hb; rfl, Ent.pick [0] rfl rfl⟩
  refine ⟨⟨0, ⟨fo_zl _, λh => by cases h⟩, ⟨rfl, rfl, fo_tv⟩, Ent.pick [0] rfl rfl⟩, ?_⟩
  rintro i js ⟨h1, h2⟩
  rw [hsz]
  refine br_decide (λh => ?_) (λh => fin true (h2 (by omega)))
  obtain rfl : i = 0 := by omega
  rw [eNul]
  have go : blk4 u = true → ((-9223372036854775808 ≤ ((0 : Nat) : Int) + 1 ∧ ((0 : Nat) : Int) + 1 ≤ 9223372036854775807) ∧ ∃ (y : Nat), (y ≤ 1 ∧ (y = 1 → blk4 u = true)) ∧ (string (btL [u]) = string (btL [u]) ∧ int .i64 (((0 : Nat) : Int) + 1) = int .i64 (y : Int) ∧ True) ∧ Ent [(0, F)] [(0, F)] ∧ 1 - y < 1 - 0) := λq => ⟨⟨by omega, by omega⟩, 1, ⟨fo_nr _, λ_ => q⟩, ⟨rfl, rfl, fo_tv⟩, Ent.pick [0] rfl rfl, by omega⟩
  have hB : blk4 u = (u == 32 || u == 9 || u == 10 || u == 13) := rfl
  refine ⟨⟨by omega, by omega⟩, br_intro (λa => ⟨⟨by omega, by omega⟩, br_intro (λb => ⟨⟨by omega, by omega⟩, br_intro (λc => ⟨⟨by omega, by omega⟩, br_intro (λd => fin false ?_) (λd => go ?_)⟩) (λc => go ?_)⟩) (λb => go ?_)⟩) (λa => go ?_)⟩
  · have a := eqN 9 (v := false) (by simpa using a)
    have b := eqN 10 (v := false) (by simpa using b)
    have c := eqN 13 (v := false) (by simpa using c)
    have d := eqN 32 (v := false) (by simpa using d)
    rw [hB, a, b, c, d] <;> rfl
  · have d := eqN 32 (v := true) (by simpa using d)
    rw [hB, d] <;> rfl
  · have d := eqN 13 (v := true) (by simpa using c)
    rw [hB, d, fo_bot]
  · have d := eqN 10 (v := true) (by simpa using b)
    rw [hB, d, fo_bot] <;> rfl
  · have d := eqN 9 (v := true) (by simpa using a)
    rw [hB, d, fo_bot] <;> rfl
theorem ib3_ok : fo_k 158 ibC3 := fo 32 Tryz.func158 (λ_ _ => []) [] ib3Inv fo_i fo_o [] ib3_vc
theorem ib12_vc (x : CrX) (F : Atom) (hc : ibC3.cond x) (hr : ibC3.rdc x F) :
 fo_C0 158 ibC3 [fo_vs (btL [bt x.s x.i])] (λb a => Done ibC3 x F (fo_rt (fo_vb (blk4 (bt b.s b.i)))) [(0, F)]) := by
  delta fo_C0 fo_vs fo_vb fo_rt
  exact ⟨ib3_ok, rfl, x, rfl, rfl, hc, fo_tv, λy _ => ⟨(), fo_tv, rfl, Ent.pick [0] rfl rfl⟩⟩
theorem ib12_ok : fo_k 100 ibC3 := fo 5 Tryz.func100 (λ_ _ => [(1, 1, .c ibC3 [] [])]) [] fo_i fo_i fo_o [] ib12_vc
structure CuX2 where
  s : ByteArray
  c : Nat
abbrev cuC2 : Con where
  X := CuX2
  Y := Unit
  args x := [.string x.s, .int .u8 x.c]
  pre _ := []
  cond x := x.s.size ≤ 1048576
  rdc _ _ := True
  rel _ _ := True
  val x _ := .returned (.tuple #[.string (cutA x.s x.c), .string (cutB x.s x.c), .bool (decide (atV x.s x.c 0 < x.s.size))])
  post _ _ := []
def cu2Inv (x : CuX2) (F : Atom) : Nat → Option Inv := fun
  | 0 => some { X := Nat, P := λi => i ≤ x.s.size ∧ ∀ j, j < i → bt x.s j ≠ x.c, mu := λi => x.s.size - i, lv := λi => [(0, .string x.s), (1, .int .u8 x.c), (7, .int .i64 i)], st := λ_ => [F] }
  | _ => none
def q324 (b : Nat) (x : CuX2) := b ≤ x.s.size ∧ ∀(a : Nat), a < b → bt x.s a ≠ x.c
theorem cu2_vc (x : CuX2) (F : Atom) (hc : cuC2.cond x) (hr : cuC2.rdc x F) :
 (∃(b : Nat), q324 b x ∧ (fo_vs x.s = fo_vs x.s ∧ fo_vc ↑x.c = fo_vc ↑x.c ∧ fo_vi 0 = fo_vi ↑b ∧ True) ∧ Ent [(0, F)] [(0, F)]) ∧ fo_vA λ(d : Nat) _ => q324 d x → fo_Bd ((d : Int) < (x.s.size : Int)) ((0 ≤ (d : Int) ∧ (d : Int) < (x.s.size : Int)) ∧ Br (byteAt x.s (d : Int) == (x.c : Int)) (true = true ∧ ((0 : Int) ≤ (0 : Int) ∧ 0 ≤ (d : Int) ∧ (d : Int) ≤ (x.s.size : Int)) ∧ fo_rI ((d : Int) + (1 : Int)) ∧ (0 ≤ (d : Int) + (1 : Int) ∧ (d : Int) + 1 ≤ (x.s.size : Int) ∧ (x.s.size : Int) ≤ (x.s.size : Int)) ∧ Done cuC2 x F (fo_rt (tuple ⟨[fo_vs (x.s.extract (Int.toNat (0 : Int)) (d : Int).toNat), fo_vs (x.s.extract ((d : Int) + (1 : Int)).toNat (x.s.size : Int).toNat), fo_vb true]⟩)) [(0, F)]) (fo_rI ((d : Int) + (1 : Int)) ∧ ∃(b : Nat), q324 b x ∧ (fo_vs x.s = fo_vs x.s ∧ fo_vc ↑x.c = fo_vc ↑x.c ∧ fo_vi ((d : Int) + (1 : Int)) = fo_vi ↑b ∧ True) ∧ Ent [(0, F)] [(0, F)] ∧ x.s.size - b < x.s.size - d)) (Done cuC2 x F (fo_rt (tuple ⟨[fo_vs x.s, fo_vs ⟨#[]⟩, fo_vb false]⟩)) [(0, F)]) := by
  delta q324 fo_rI fo_vi fo_vc fo_vs fo_vb fo_Bd fo_rt fo_vA
  obtain ⟨s, c⟩ := x
  have hs : s.size ≤ 1048576 := hc
  dsimp only
  refine ⟨⟨0, ⟨fo_zl _, λj h => absurd h (Nat.not_lt_zero _)⟩, ⟨rfl, rfl, rfl, fo_tv⟩, Ent.pick [0] rfl rfl⟩, ?_⟩
  rintro i js ⟨h1, h2⟩
  have eNul : byteAt s (i : Int) = (bt s i : Int) := by rw [byteAt_bt, fo_tn]
  rw [eNul]
  refine br_decide (λh => ⟨⟨by omega, by omega⟩, br_intro (λq => ⟨rfl, ⟨by omega, by omega, by omega⟩, ⟨by omega, by omega⟩, ⟨by omega, by omega, by omega⟩, (), fo_tv, ?_, Ent.pick [0] rfl rfl⟩) (λq => ?_)⟩) (λh => ⟨(), fo_tv, ?_, Ent.pick [0] rfl rfl⟩)
  · have q : ((bt s i : Int) == (c : Int)) = true := q
    rw [beq_iff_eq] at q
    have ha : atV s c 0 = i := at_eq s c 0 i (fo_zl _) h1 (λj _ hj => h2 j hj) λ_ => by omega
    show _ = returned (.tuple #[.string (cutA s c), .string (cutB s c), .bool (decide (atV s c 0 < s.size))])
    unfold cutA cutB
    rw [ha, fo_dt (show i < s.size by omega), Nat.min_eq_left (by omega)] <;> rfl
  · have q : ((bt s i : Int) == (c : Int)) = false := q
    rw [fo_bf] at q
    exact ⟨⟨by omega, by omega⟩, i + 1, ⟨by omega, λj hj => if e : j = i then by subst e; omega else h2 j (by omega)⟩, ⟨rfl, rfl, rfl, fo_tv⟩, Ent.pick [0] rfl rfl, by omega⟩
  · have hi : i = s.size := by omega
    have ha : atV s c 0 = s.size := at_eq s c 0 s.size (fo_zl _) (fo_nr _) (λj _ hj => h2 j (by omega)) λh => absurd h (Nat.lt_irrefl _)
    show _ = returned (.tuple #[.string (cutA s c), .string (cutB s c), .bool (decide (atV s c 0 < s.size))])
    unfold cutA cutB
    rw [ha, fo_df (Nat.lt_irrefl _), Nat.min_eq_right (Nat.le_succ _), ext_all, ext_end s s.size (fo_nr _)]
theorem cu2_ok : fo_k 52 cuC2 := fo 27 Tryz.func52 (λ_ _ => []) [] cu2Inv fo_i fo_o [] cu2_vc
end
end Go.Proofs.YtjdabjmjldiodaaGreatDoor
