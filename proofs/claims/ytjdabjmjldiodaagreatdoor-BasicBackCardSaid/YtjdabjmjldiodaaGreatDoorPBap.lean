/- A part of the proof that pennantlaw23.BasicBack answers true at every input. -/
import Derived.Test.YtjdabjmjldiodaaGreatDoorPBao
set_option linter.all false
namespace Go.Proofs.YtjdabjmjldiodaaGreatDoor
set_option maxRecDepth 100000
open Go.Value (int slice string bool pointer agg tuple func float iface nilIface)
open Go.IntKind (i64 u8 u64 i32 u32 u16 i8 i16)
open Go.FloatKind (f64)
open Go.Ending (returned panicked)
section
open Go
set_option maxHeartbeats 1000000
structure RqtX where
  n : ByteArray
  cs : List Nat
structure RqtX.ok (x : RqtX) : Prop where
  n : NmOk x.n
  s : Scs x.cs
  e : x.cs ≠ []
  z : (utf x.cs).size ≤ 800
  q : (wid (qxC x.cs)).size ≤ 16384
def uTx : ByteArray := ⟨#[116, 101, 120, 116, 47, 112, 108, 97, 105, 110]⟩
abbrev rtxC : Con where
  X := RqtX
  Y := Unit
  args x := [.agg (poL x.n (utf (qxC x.cs))).toArray]
  pre _ := []
  cond x := x.ok
  rdc _ F := RqG F
  rel _ _ := True
  val x _ := .returned (.tuple #[.agg #[.string ⟨#[80, 79, 83, 84]⟩, .string (btL (tQ x.n)), .string ⟨#[104]⟩, .string uTx, .string (utf x.cs)], .int .i64 0])
  post _ _ := []
  rmono _ _ _ hs h := h.sub hs
theorem tq_eq (n : ByteArray) : (⟨#[47, 115, 48]⟩ : ByteArray) ++ ((⟨#[63]⟩ : ByteArray) ++ fwB (foL n [])) = btL (tQ n) := by
  rw [show (⟨#[47, 115, 48]⟩ : ByteArray) = btL tS0 from rfl, show (⟨#[63]⟩ : ByteArray) = btL [63] from rfl, fwB_L, btL_app, btL_app] <;> rfl
structure RtC where
  b0 : Nat
  b1 : Nat
  b2 : Nat
  b3 : Nat
  h : Nat
def rtxCut (x : RqtX) (F : Atom) : Nat → Option Inv := fun
  | 9 => some { X := RtC, P := λ_ => True, mu := λ_ => 0, lv := λd => [(1, .pointer (some ⟨d.b0, 0, none⟩)), (2, .pointer (some ⟨d.b1, 0, none⟩)), (4, .pointer (some ⟨d.b2, 0, none⟩)), (5, .slice (some ⟨d.b3, 0, none⟩) 1 1), (6, .pointer (some ⟨d.h, 0, none⟩)), (7, .string (wid (qxC x.cs))), (9, .int .i64 0)], st := λd => [F, eFvv d.b1, q5o d.b2, .cells d.b3 [.string uNm, .string x.n] 36, ho0 d.h 10000, .cells d.b0 (poL x.n (utf (qxC x.cs))) 53] }
  | _ => none
abbrev q10 (x : RqtX) : List Value := [fo_vi 0, fo_vi 0, fo_vi 6, fo_vs ⟨#[]⟩, fo_vs ⟨#[104]⟩, fo_vi 80, fo_vs ⟨#[47, 115, 48]⟩, fo_vs x.n, fo_vs ⟨#[]⟩, fo_vs ⟨#[]⟩, fo_vs ⟨#[]⟩, fo_vs ⟨#[]⟩, fo_vs ⟨#[]⟩, fo_vs (utf (qxC x.cs))]
abbrev q180 (F : Atom) (s : Nat) (x : RqtX) (r q p n : Nat) := [(0, F), (1000, fo_cl s (q10 x) 53), (1001, fo_cl r q4 45), (1002, fo_cl q q14 45), (1003, fo_cl p [fo_vs ⟨#[95, 115, 99, 120, 109, 108, 101, 118, 101, 110, 116, 110, 97, 109, 101]⟩, fo_vs x.n] 36), (1004, fo_cl n q23 60)]
abbrev q292 (x : RqtX) : List Value := [fo_vs uNm, fo_vs x.n]
abbrev q198 (F : Atom) (a : RtC) (x : RqtX) := [(0, F), (1, fo_cl a.b1 q4 45), (2, fo_cl a.b2 q14 45), (3, fo_cl a.b3 (q292 x) 36), (4, fo_cl a.h q23 60), (5, fo_cl a.b0 (q10 x) 53)]
abbrev q99 (k : TxX2) : List Value := [fo_vi 4, float f64 0, fo_vs (wid k.cs), fo_vi 0]
abbrev q164 (F : Atom) (m : RtC) (x : RqtX) (k : TxX2) (i : Nat) := fo_aR [(0, F), (1, fo_cl m.b1 q4 45), (2, fo_cl m.b2 q14 45), (3, fo_cl m.b3 (q292 x) 36), (4, fo_cl k.b q23 60), (5, fo_cl m.b0 (q10 x) 53), (1005, fo_cl i (q99 k) 30)] []
abbrev q29 (h : FwtX) : List Value := [fo_vs ⟨#[80, 79, 83, 84]⟩, fo_vs ⟨#[47, 115, 48]⟩, fo_vs ⟨#[104]⟩, fo_vs ⟨#[97, 112, 112, 108, 105, 99, 97, 116, 105, 111, 110, 47, 120, 45, 119, 119, 119, 45, 102, 111, 114, 109, 45, 117, 114, 108, 101, 110, 99, 111, 100, 101, 100]⟩, fo_vs (fwB (foL h.n []))]
abbrev q37 (h : FwtX) (d : BvX) : List Value := [fo_vs ⟨#[80, 79, 83, 84]⟩, fo_vs ((ByteArray.mk #[47, 115, 48]) ++ ((ByteArray.mk #[63]) ++ fwB (foL h.n []))), fo_vs ⟨#[104]⟩, fo_vs ⟨#[116, 101, 120, 116, 47, 112, 108, 97, 105, 110]⟩, fo_vs (nrV d.s)]
theorem rtx_vc (x : RqtX) (F : Atom) (hc : rtxC.cond x) (hr : rtxC.rdc x F) :
 ∀(s r : Nat), fo_sm s 2 ∧ fo_sm s 6 ∧ fo_sm s 4 ∧ ∀(q : Nat), fo_s5 q (fo_sm s 5 ∧ fo_sm s 7 ∧ ∀(p : Nat), T83 [fo_vi 10000] (λo n => (fo_sm s 13 ∧ T136 [fo_vs (utf (qxC x.cs))] (fo_aR (q180 F s x r q p n) []) (λc b => ∃(a : RtC), True ∧ (fo_vp (q17 s) = fo_vp (some ⟨a.b0, 0, none⟩) ∧ fo_vp (q17 r) = fo_vp (some ⟨a.b1, 0, none⟩) ∧ fo_vp (q17 q) = fo_vp (some ⟨a.b2, 0, none⟩) ∧ fo_vl (q17 p) 1 1 = fo_vl (some ⟨a.b3, 0, none⟩) 1 1 ∧ fo_vp (q17 n) = fo_vp (some ⟨a.h, 0, none⟩) ∧ fo_vs (wid c.cs) = fo_vs (wid (qxC x.cs)) ∧ fo_vi 0 = fo_vi 0 ∧ True) ∧ Ent (q180 F s x r q p n) (q198 F a x))) ∧ fo_vA λ(m : RtC) _ => True → fo_C4 33 ptOC (λk => k.ok) (λ_ rr => gN.ok rr ∧ Utf rr) (λ_ _ => True) [fo_vp (some ⟨m.h, 0, none⟩), fo_vs (wid (qxC x.cs))] [fo_cl m.h q23 60] (fo_aR (q198 F m x) [4]) (λk j => ∀(i : Nat), fo_sm i 0 ∧ fo_sm i 1 ∧ fo_sm i 2 ∧ fo_sm i 3 ∧ fo_sm i 0 ∧ fo_C2 39 fwTC FtOk (λh rr => FoRd ⟨h.n, [], h.r⟩ rr) [fo_vl (some ⟨m.b3, 0, none⟩) 1 1] (q164 F m x k i) (λh g => fo_sm m.b0 13 ∧ Br ((utf (qxC x.cs)).toList == q59.toList) (fo_sm m.b2 3 ∧ fo_sm m.b2 4 ∧ fo_s5 m.b2 (T138 [agg ⟨q29 h⟩] (fo_aR [(0, F), (1, fo_cl m.b1 q4 45), (2, fo_cl m.b2 (q29 h) 45), (3, fo_cl m.b3 (q292 x) 36), (4, fo_cl k.b q23 60), (5, fo_cl m.b0 (q10 x) 53), (1005, fo_cl i (q99 k) 30)] []) (λb a => fo_s5 m.b2 (fo_s5 m.b1 (fo_s5 m.b1 (Done rtxC x F (fo_rt (tuple ⟨[agg ⟨q29 h⟩, fo_vi 0]⟩)) [(0, F), (1, fo_cl m.b1 (q29 h) 45), (2, fo_cl m.b2 (q29 h) 45), (3, fo_cl m.b3 (q292 x) 36), (4, fo_cl k.b q23 60), (5, fo_cl m.b0 (q10 x) 53), (1005, fo_cl i (q99 k) 30)])))))) (fo_sm m.b2 1 ∧ fo_C2 40 coI q76 (λ_ => Gl) [fo_vs ⟨#[47, 115, 48]⟩, fo_vs ⟨#[63]⟩] (q164 F m x k i) (λf e => fo_sm m.b2 1 ∧ 1 + (fwB (foL h.n [])).size ≤ 9223372036854775807 ∧ 3 + ((ByteArray.mk #[63]) ++ fwB (foL h.n [])).size ≤ 9223372036854775807 ∧ fo_sm m.b2 1 ∧ true = true ∧ fo_sm m.b0 13 ∧ fo_sm m.b2 3 ∧ fo_sm m.b2 4 ∧ fo_sm i 0 ∧ fo_sm i 1 ∧ fo_sm i 2 ∧ fo_sm i 3 ∧ T137 [fo_vp (some ⟨m.h, 0, none⟩), agg ⟨q99 k⟩] (λd c => fo_sm m.b2 4 ∧ fo_s5 m.b2 (T138 [agg ⟨q37 h d⟩] (fo_aR [(0, F), (1, fo_cl m.b1 q4 45), (2, fo_cl m.b2 (q37 h d) 45), (3, fo_cl m.b3 (q292 x) 36), (4, fo_cl k.b q23 60), (5, fo_cl m.b0 (q10 x) 53), (1005, fo_cl i (q99 k) 30)] []) (λb a => fo_s5 m.b2 (fo_s5 m.b1 (fo_s5 m.b1 (Done rtxC x F (fo_rt (tuple ⟨[agg ⟨q37 h d⟩, fo_vi 0]⟩)) [(0, F), (1, fo_cl m.b1 (q37 h d) 45), (2, fo_cl m.b2 (q37 h d) 45), (3, fo_cl m.b3 (q292 x) 36), (4, fo_cl k.b q23 60), (5, fo_cl m.b0 (q10 x) 53), (1005, fo_cl i (q99 k) 30)])))))))))))) := by
  delta T83 T136 q10 q4 q14 q23 q180 q17 q292 q198 q99 q164 q59 T138 q29 q76 T137 q37 fo_aR fo_sm fo_s5 fo_C0 fo_C1 fo_C2 fo_C4 fo_vi fo_vs fo_vp fo_vl fo_cl fo_rt fo_vA
  have hr : RqG F := hr
  have fr : ∀ (S : St) (touch : List Nat), 0 ∉ touch → gt S 0 = F → RqG (.pred (rest S touch)) := λS touch h e => hr.sub (sub_rest (A := F) 0 h e)
  obtain ⟨n, cs⟩ := x
  obtain ⟨hn, hs, he, hz, hq⟩ := hc
  dsimp only at hn hs he hz hq ⊢
  have hne : qxC cs ≠ [] := by unfold qxC; simp
  have hdz : (utf (qxC cs)).size ≤ 1048576 := by
    have := utf_le (cs := qxC cs) (n := 8192) (by have := wid_size (qxC cs); omega)
    omega
  have hd0 : (utf (qxC cs)).size ≠ 0 := by
    have h1 := utC_len (qxC cs)
    have h2 : 1 ≤ (qxC cs).length := List.length_pos_iff.2 hne
    unfold utf
    rw [btL_size]
    omega
  have hbz : (utC cs).length ≤ 800 := by
    unfold utf at hz
    rw [btL_size] at hz
    exact hz
  have hwz : (wid cs).size ≤ 1600 := by
    have := wid_size cs
    have := unL_le cs
    omega
  have hf := fwA_size hn
  have hf2 : (fwB (foL n [])).size ≤ 252 := hf
  intro b b1
  refine ⟨⟨rfl, rfl⟩, ⟨rfl, rfl⟩, ⟨rfl, rfl⟩, λb2 => ?_⟩
  iterate 7 refine ⟨⟨rfl, rfl⟩, ?_⟩
  refine λb3 => ⟨nwa_ok, rfl, (), rfl, rfl, fo_tv, fo_tv, λh _ => ⟨⟨⟨rfl, rfl⟩, wdO_ok, rfl, ⟨qxC cs⟩, rfl, rfl, ⟨quC_sc hs, hne, hdz⟩, (fr _ _ (by simp) rfl).ut, λy _ => ⟨⟨b, b1, b2, b3, h⟩, fo_tv, ⟨rfl, rfl, rfl, rfl, rfl, rfl, rfl, fo_tv⟩, Ent.pick [0, 1001, 1002, 1003, 1004, 1000] rfl rfl⟩⟩, ?_⟩⟩
  clear b b1
  rintro ⟨b0, b1, b2, b3, h⟩ js -
  refine ⟨ptO_ok, rfl, ⟨h, cs⟩, rfl, rfl, ⟨hs, hq⟩, ⟨(fr _ _ (by simp) rfl).gn, (fr _ _ (by simp) rfl).ut⟩, λ_ _ b5 => ?_⟩
  iterate 5 refine ⟨⟨rfl, rfl⟩, ?_⟩
  have hrow : IsRow 36 2 (fCs (foL n [])) ⟨some ⟨b3, 0, none⟩, 1, 1, .cells b3 [.string uNm, .string n] 36⟩ := .blk b3 1 1 [] rfl rfl (by decide)
  refine ⟨fwT_ok, rfl, ⟨n, ⟨some ⟨b3, 0, none⟩, 1, 1, .cells b3 [.string uNm, .string n] 36⟩⟩, rfl, rfl, ⟨hn, hrow.src, by dsimp only; omega⟩, ⟨row_srcd 3 (by simp) rfl hrow⟩, λ_ _ => ⟨⟨rfl, rfl⟩, br_intro (λe => ?_) (λ_ => ?_)⟩⟩
  · have e : bEq (utf (qxC cs)) ⟨#[]⟩ = true := e
    rw [bEq_nil] at e
    exact (hd0 (fo_od1 e)).elim
  refine ⟨⟨rfl, rfl⟩, coI_ok, rfl, (), rfl, rfl, fo_tv, (fr _ _ (by simp) rfl).gl, λ_ _ => ⟨⟨rfl, rfl⟩, ?_, ?_, ⟨rfl, rfl⟩, rfl, ?_⟩⟩
  · dsimp only; omega
  · dsimp only
    rw [fo_sa]
    have : (⟨#[63]⟩ : ByteArray).size = 1 := rfl
    omega
  iterate 7 refine ⟨⟨rfl, rfl⟩, ?_⟩
  refine ⟨bvt_ok, rfl, ⟨some ⟨h, 0, none⟩, wid cs⟩, rfl, rfl, by dsimp only; omega, fo_tv, λ_ _ => ?_⟩
  dsimp only
  rw [tq_eq, nr_wid hs]
  iterate 6 refine ⟨⟨rfl, rfl⟩, ?_⟩
  refine ⟨wqO_ok, rfl, ⟨tQ n, cTx, utC cs⟩, rfl, rfl, ⟨tQ_ok hn, cTx_ok, utC_lt hs, by dsimp only; omega⟩, ⟨(fr _ _ (by simp) rfl).gl, (fr _ _ (by simp) rfl).tx⟩, λy _ => ?_⟩
  iterate 15 refine ⟨⟨rfl, rfl⟩, ?_⟩
  exact ⟨(), fo_tv, rfl, Ent.pick [0] rfl rfl⟩
theorem rtx_ok : fo_k 14 rtxC := fo 172 Tryz.func14 (λ_ _ => [(0, 0, .n 1000), (0, 1, .n 1001), (1, 2, .q [.aq 1000]), (3, 2, .q [.aq 1000]), (3, 5, .q [.aq 1000]), (3, 7, .n 1002), (3, 8, .w (at5 1002)), (4, 2, .q [.aq 1000]), (6, 2, .q [.aq 1000]), (6, 4, .n 1003), (7, 0, .c nwaC [] [1004]), (8, 2, .q [.aq 1000]), (8, 3, .c wdOC [] []), (9, 2, .c ptOC [4] [4]), (9, 6, .n 1005), (9, 7, .w (at4u 1005)), (10, 7, .q [.aq 1005]), (19, 1, .c fwTC [] []), (22, 4, .q [.aq 5]), (25, 1, .q [.aq 2]), (25, 2, .c coI [] []), (27, 1, .q [.aq 2]), (27, 7, .w [.aq 2]), (28, 2, .q [.aq 5]), (28, 4, .w [.aq 2]), (28, 6, .w [.aq 2]), (30, 1, .q (at4u 1005)), (30, 2, .c bvtC [] []), (30, 4, .w [.aq 2]), (31, 0, .q (at5 2)), (31, 1, .c wqOC [] []), (34, 0, .q (at5 2)), (34, 1, .w (at5 1))]) [(10, 8, OH.q [LH.aq (1005 : Nat)]), (23, 2, OH.w [LH.aq (2 : Nat)]), (23, 4, OH.w [LH.aq (2 : Nat)])] fo_i rtxCut fo_o (at5 1) rtx_vc
end
section
open Go
set_option maxHeartbeats 1000000
abbrev nwkC : Con := nwC 1000
theorem nwk_vc (x : PUnit) (F : Atom) (hc : nwkC.cond x) (hr : nwkC.rdc x F) :
 ∀(a : Nat), Done nwkC x F (fo_rt (q233 a)) [(0, F), (2040, fo_cl a [fo_vl none 0 0, fo_vi (if 10000 < if (0 : Int) > (1000 : Int) then (0 : Int) else (1000 : Int) then (10000 : Int) else if (0 : Int) > (1000 : Int) then (0 : Int) else (1000 : Int))] 60)] := by
  delta q17 q233 fo_vi fo_vp fo_vl fo_cl fo_rt
  exact λb => ⟨b, fo_tv, rfl, Ent.pick [2040, 0] rfl rfl⟩
theorem nwk_ok : fo_k 6 nwkC := fo 8 Tryz.func6 nwOv [] fo_i fo_i fo_o [] nwk_vc
abbrev lwdC : Con where
  X := WdX
  Y := Unit
  args x := [.string x.s]
  pre _ := []
  cond x := x.s.size ≤ 262144
  rdc _ _ := True
  rel _ _ := True
  val x _ := .returned (.string (wideV x.s))
  post _ _ := []
abbrev q286 : WdX → Prop := λw0 => w0.s.size ≤ 262144
def T139 := fo_C1 20 wdrC q286
theorem lwd_vc (x : WdX) (F : Atom) (hc : lwdC.cond x) (hr : lwdC.rdc x F) :
 T139 [fo_vs x.s] (λb a => Done lwdC x F (fo_rt (fo_vs (wideV b.s))) [(0, F)]) := by
  delta q286 T139 fo_C1 fo_vs fo_rt
  exact ⟨wdr_ok, rfl, x, rfl, rfl, hc, fo_tv, λ_ _ => ⟨(), fo_tv, rfl, Ent.pick [0] rfl rfl⟩⟩
theorem lwd_ok : fo_k 11 lwdC := fo 13 Tryz.func11 (λ_ _ => [(1, 1, .c wdrC [] [])]) [] fo_i fo_i fo_o [] lwd_vc
abbrev lrtC : Con where
  X := WdX
  Y := Unit
  args x := [.string x.s]
  pre _ := []
  cond x := x.s.size ≤ 262144
  rdc _ _ := True
  rel _ _ := True
  val x _ := .returned (.bool (okV x.s))
  post _ _ := []
theorem lrt_vc (x : WdX) (F : Atom) (hc : lrtC.cond x) (hr : lrtC.rdc x F) :
 T139 [fo_vs x.s] (λb a => Done lrtC x F (fo_rt (fo_vb ((bif okV b.s then (0 : Int) else (10 : Int)) == 0))) [(0, F)]) := by
  delta q286 T139 fo_C1 fo_vs fo_vb fo_rt
  refine ⟨wdr_ok, rfl, x, rfl, rfl, hc, fo_tv, λ_ _ => ⟨(), fo_tv, ?_, Ent.pick [0] rfl rfl⟩⟩
  show returned (.bool ((bif okV x.s then (0 : Int) else 10) == 0)) = returned (.bool (okV x.s))
  cases okV x.s <;> rfl
theorem lrt_ok : fo_k 9 lrtC := fo 14 Tryz.func9 (λ_ _ => [(1, 1, .c wdrC [] [])]) [] fo_i fo_i fo_o [] lrt_vc
abbrev ltxC : Con where
  X := WdX
  Y := Unit
  args x := [.string x.s]
  pre _ := []
  cond x := x.s.size ≤ 262144
  rdc _ _ := True
  rel _ _ := True
  val x _ := .returned (.agg #[.int .i64 4, .float .f64 0, .string (wideV x.s), .int .i64 0])
  post _ _ := []
def T140 := fo_C1 11 lwdC q286
theorem ltx_vc (x : WdX) (F : Atom) (hc : ltxC.cond x) (hr : ltxC.rdc x F) :
 ∀(c : Nat), T140 [fo_vs x.s] (λb a => fo_sm c 0 ∧ fo_sm c 1 ∧ fo_sm c 2 ∧ fo_sm c 3 ∧ fo_sm c 0 ∧ fo_sm c 1 ∧ fo_sm c 2 ∧ fo_sm c 3 ∧ Done ltxC x F (fo_rt (agg ⟨q42 b⟩)) [(0, F), (1000, fo_cl c (q42 b) 30)]) := by
  delta q286 T140 q42 fo_sm fo_C1 fo_vi fo_vs fo_cl fo_rt
  refine λb => ⟨lwd_ok, rfl, x, rfl, rfl, hc, fo_tv, λ_ _ => ?_⟩
  iterate 8 refine ⟨⟨rfl, rfl⟩, ?_⟩
  exact ⟨(), fo_tv, rfl, Ent.pick [0] rfl rfl⟩
theorem ltx_ok : fo_k 7 ltxC := fo 6 Tryz.func7 (λ_ _ => [(0, 0, .n 1000), (1, 1, .c lwdC [] []), (1, 3, .w [.aq 1000, .aq 1000, .aq 1000, .aq 1000])]) [] fo_i fo_i fo_o [LH.aq 1000, LH.aq 1000, LH.aq 1000, LH.aq 1000] ltx_vc
abbrev lnwC : Con where
  X := WdX
  Y := Unit
  args x := [.string x.s]
  pre _ := []
  cond x := x.s.size ≤ 1048576 ∧ x.s.size % 2 = 0
  rdc _ _ := True
  rel _ _ := True
  val x _ := .returned (.tuple #[.string (nrV x.s), .bool true])
  post _ _ := []
theorem lnw_vc (x : WdX) (F : Atom) (hc : lnwC.cond x) (hr : lnwC.rdc x F) :
 fo_C1 30 nrnC (λb => b.s.size ≤ 1048576) [fo_vs x.s] (λb a => Done lnwC x F (fo_rt (tuple ⟨[fo_vs (nrV b.s), fo_vb (nrE b.s == 0)]⟩)) [(0, F)]) := by
  delta fo_C1 fo_vs fo_vb fo_rt
  refine ⟨nrr_ok, rfl, x, rfl, rfl, hc.1, fo_tv, λ_ _ => ⟨(), fo_tv, ?_, Ent.pick [0] rfl rfl⟩⟩
  show returned (.tuple #[.string (nrV x.s), .bool ((bif x.s.size % 2 == 0 then (0 : Int) else 11) == 0)]) = _
  rw [beq_iff_eq.2 hc.2] <;> rfl
theorem lnw_ok : fo_k 13 lnwC := fo 14 Tryz.func13 (λ_ _ => [(1, 1, .c nrnC [] [])]) [] fo_i fo_i fo_o [] lnw_vc
abbrev stOC : Con where
  X := TdoX
  Y := Unit
  args x := [.pointer (some ⟨x.b, 0, none⟩), .agg #[.int .i64 5, .float .f64 0, .string ⟨#[]⟩, .int .i64 0]]
  pre x := [hoA x.b x.left (tvL x.l)]
  cond x := (x.l.length ≤ 10000 ∧ (∀ p ∈ x.l, p.1.size ≤ 1048576 ∧ p.2.size ≤ 1048576) ∧ (x.l.map (·.1)).Nodup) ∧ (obV quV x.l).size ≤ 16384
  rdc _ F := Utf F
  rel _ _ := True
  val x _ := .returned (.tuple #[.agg #[.int .i64 4, .float .f64 0, .string (obV quV x.l), .int .i64 0], .int .i64 0])
  post _ _ := []
  rmono _ _ _ hs h := h.sub hs
theorem stO_ok : fo_k 12 stOC := ⟨λx F I w hc hr hs => by
  obtain ⟨⟨h1, h2, h3⟩, h4⟩ := hc
  have hr : Utf F := hr
  obtain ⟨y, hy, hs⟩ := ex_open hs
  have hg := Tg.good.ob x.b y.a x.l h1 h2 h3
  refine (str_ok.h _ (.pred (rest (ofL (hoB x.b x.left (tvL x.l) y ++ [F])) [])) I w hg ⟨Utf.rest (j := 5) (by simp) hr, hoIn_of F hy, hg⟩ (hs.part (touch := []) List.nodup_nil)).mono λe w' ⟨z, J, k1, k2, k3, k4, k5⟩ => ?_
  have k4 := Sat.join (post := []) (touch := []) (out := []) k4
  have k6 : Sat J (ofL [F]) w' := k4.pick [5] rfl rfl
  have k1 : z = strV (obV quV x.l) := k1
  unfold strV at k1
  rw [fo_dt h4, fo_ct] at k1
  subst k1
  exact ⟨(), J, fo_tv, k2, k3, k6, k5⟩⟩
structure StqX where
  b : Nat
  s : ByteArray
abbrev stTC : Con where
  X := StqX
  Y := Unit
  args x := [.pointer (some ⟨x.b, 0, none⟩), .agg #[.int .i64 4, .float .f64 0, .string x.s, .int .i64 0]]
  pre _ := []
  cond x := x.s.size ≤ 1048576 ∧ (quV x.s).size ≤ 16384
  rdc _ F := Utf F
  rel _ _ := True
  val x _ := .returned (.tuple #[.agg #[.int .i64 4, .float .f64 0, .string (quV x.s), .int .i64 0], .int .i64 0])
  post _ _ := []
  rmono _ _ _ hs h := h.sub hs
theorem stT_ok : fo_k 12 stTC := ⟨λx F I w hc hr hs => by
  obtain ⟨h1, h4⟩ := hc
  have hr : Utf F := hr
  have hg := Tg.good.tx x.b x.s h1
  refine (str_ok.h _ F I w hg ⟨hr, fo_tv, hg⟩ hs).mono λe w' ⟨z, J, k1, k2, k3, k4, k5⟩ => ?_
  have k1 : z = strV (quV x.s) := k1
  unfold strV at k1
  rw [fo_dt h4, fo_ct] at k1
  subst k1
  exact ⟨(), J, fo_tv, k2, k3, k4, k5⟩⟩
end
section
open Go
set_option maxHeartbeats 1000000
structure LbX where
  n : ByteArray
  fs : List Fld
  a : Option Addr
  k : Nat
  c : Nat
  b : ByteArray
structure LbOk (x : LbX) : Prop where
  s : IsSrc 2 (fCs x.fs) x.a x.k
  z : ∀ f ∈ x.fs, f.1.size ≤ 140737488355328 ∧ f.2.size ≤ 140737488355328
theorem br_eq {a b : ByteArray} {A B : Prop} (h : a = b) (hA : A) : Br (a.toList == b.toList) A B := br_intro (λ_ => hA) (λe => by
  have t : bEq a b = true := (bEq_eq a b).2 h
  rw [show bEq a b = false from e] at t
  cases t)
theorem br_ne {a b : ByteArray} {A B : Prop} (h : a ≠ b) (hB : B) : Br (a.toList == b.toList) A B := br_intro (λe => (h ((bEq_eq a b).1 e)).elim) (λ_ => hB)
theorem mem_bt {s : ByteArray} {b : Nat} (h : b ∈ baL s) : ∃ j, j < s.size ∧ bt s j = b := by
  obtain ⟨j, hj, e⟩ := List.getElem_of_mem h
  have h1 : bt s j = (baL s).getD j 0 := by rw [← bt_btL (baL_lt s), btL_baL]
  rw [fo_gd, fo_ge hj] at h1
  exact ⟨j, by rw [← baL_len]; exact hj, h1.trans e⟩
theorem nmq_ne {n : ByteArray} (h : (n.toList == (⟨#[]⟩ : ByteArray).toList) = false) : n.size ≠ 0 := λh0 => by
  have e := bEq_nil n
  rw [show bEq n ⟨#[]⟩ = false from h, fo_dt h0] at e
  cases e
theorem nmq_ok {n : ByteArray} (h1 : n.size ≠ 0) (h2 : n.size ≤ 60) (h3 : ∀ j, j < n.size → 33 ≤ bt n j ∧ bt n j ≤ 126) : NmOk n := ⟨h1, h2, λb hb => by
  obtain ⟨j, hj, e⟩ := mem_bt hb
  rw [← e]
  exact h3 j hj⟩
theorem not_false' {b : Bool} (h : (!b) = false) : b = true := by cases b with
  | true => rfl
  | false => cases h
theorem stat_200 {A B : Prop} (h : A) : Br ((((200 : Nat) : Int)) == 200) A B := br_intro (λ_ => h) (λe => absurd e (by decide))
structure LbRd (x : LbX) (F : Atom) : Prop where
  g : RqG F
  s : Srcd F x.a (fCs x.fs)
abbrev lboC : Con where
  X := LbX
  Y := Unit
  args x := [.agg #[.string x.n, .slice x.a x.k x.c, .string x.b, .bool true]]
  pre _ := []
  cond x := LbOk x
  rdc x F := LbRd x F
  rel _ _ := True
  val _ _ := .returned (.bool true)
  post _ _ := []
  rmono _ _ _ hs h := ⟨h.g.sub hs, h.s.sub hs⟩
structure LbS where
  i : Nat
  h : Nat
  b9 : Nat
  left : Int
structure LbS.ok (x : LbX) (d : LbS) : Prop where
  n : NmOk x.n
  k : x.k ≤ 20
  i : d.i ≤ x.k
  l1 : 999 ≤ d.left + d.i
  l2 : d.left ≤ 999
  f : ∀ f ∈ x.fs.take d.i, FdOk f
  z : x.b.size ≤ 800
structure LbN where
  i : Nat
structure LbN.ok (x : LbX) (d : LbN) : Prop where
  k : x.k ≤ 20
  z : x.b.size ≤ 800
  n : x.n.size ≤ 60
  e : x.n.size ≠ 0
  i : d.i ≤ x.n.size
  a : ∀ j, j < d.i → 33 ≤ bt x.n j ∧ bt x.n j ≤ 126
def lboInv (x : LbX) (F : Atom) : Nat → Option Inv := fun
  | 0 => some { X := LbN, P := λd => d.ok x, mu := λd => x.n.size - d.i, lv := λd => [(3, .string x.n), (4, .slice x.a x.k x.c), (5, .string x.b), (6, .bool true), (51, .int .i64 x.n.size), (52, .int .i64 d.i)], st := λ_ => [F] }
  | 2 => some { X := LbS, P := λd => d.ok x, mu := λd => x.k - d.i, lv := λd => [(3, .string x.n), (5, .string x.b), (6, .bool true), (8, .pointer (some ⟨d.h, 0, none⟩)), (9, .pointer (some ⟨d.b9, 0, none⟩)), (10, .int .i64 0), (77, .slice x.a x.k x.c), (78, .int .i64 x.k), (79, .int .i64 d.i)], st := λd => [F, hoA d.h d.left (tvL (kvF (x.fs.take d.i))), .cells d.b9 [.int .i64 4, .float .f64 0, .string (wideV x.b), .int .i64 0] 30] }
  | _ => none
def T141 := fo_C2 5 awhC q76 (λ_ => RqG)
abbrev q80 (F : Atom) (K : Nat) (x : LbX) := [(0, F), (1000, fo_cl K [fo_vs x.n, fo_vl x.a x.k x.c, fo_vs x.b, fo_vb true] 24)]
def q254 (H : LbN) (x : LbX) := 0 ≤ (H.i : Int) ∧ (H.i : Int) < (x.n.size : Int)
def T142 := fo_C0 6 nwkC
def T143 := fo_C1 7 ltxC q286
abbrev q247 : List Value := [fo_vl none 0 0, fo_vi 1000]
abbrev q303 (a : LbS) : Option Addr := some ⟨a.h, 0, none⟩
abbrev q260 (x : LbX) : List Value := [fo_vi 4, float f64 0, fo_vs (wideV x.b), fo_vi 0]
abbrev q161 (F : Atom) (a : LbS) (x : LbX) := [(0, F), (1, fo_pr (Ex.rest (hoR (tvL (kvF (List.take a.i x.fs)))) (hoB a.h a.left (tvL (kvF (List.take a.i x.fs)))))), (2, fo_cl a.b9 (q260 x) 30)]
def q39 (x : LbX) (F : Atom) (w : LbS) (o : Nat) (r q : ByteArray) := Done lboC x F q81 [(0, F), (1, fo_pr (Ex.rest (hoR (tvL (kvF (List.take w.i x.fs)))) (hoB w.h w.left (tvL (kvF (List.take w.i x.fs)))))), (2, fo_cl w.b9 (q260 x) 30), (2003, fo_cl o (q210 r q) 36)]
def T144 := fo_C1 9 lrtC q286
def T145 := fo_C1 13 lnwC (λw0 => w0.s.size ≤ 1048576 ∧ w0.s.size.mod 2 = 0)
abbrev q112 (q : TdoX) : List Value := [fo_vi 4, float f64 0, fo_vs (obV quV q.l), fo_vi 0]
abbrev q128 (x : LbX) (l : WdX) : List Value := [agg ⟨[fo_vi 0, fo_vi 0, fo_vi 6, fo_vs ⟨#[]⟩, fo_vs ⟨#[104]⟩, fo_vi 80, fo_vs ⟨#[47, 115, 48]⟩, fo_vs x.n, fo_vs ⟨#[]⟩, fo_vs ⟨#[]⟩, fo_vs ⟨#[]⟩, fo_vs ⟨#[]⟩, fo_vs ⟨#[]⟩, fo_vs (nrV l.s)]⟩]
abbrev q19 (f : Bool) (g : RoX) : List Value := [fo_vs (bif f then q59 else (ByteArray.mk #[80, 79, 83, 84])), fo_vs (bif f then q59 else (ByteArray.mk #[47, 115, 48])), fo_vs (bif f then q59 else (ByteArray.mk #[104])), fo_vs (bif f then q59 else uFm), fo_vs (bif f then q59 else fwB (foL g.n g.l))]
abbrev q209 (F : Atom) (w : LbS) (m : Nat) (q : TdoX) (e : Nat) (f : Bool) (g : RoX) := [(0, F), (1, fo_em), (2, fo_cl w.b9 q12 30), (2004, fo_cl m (q112 q) 30), (2005, fo_cl e (q19 f g) 45)]
def T146 := fo_C2 15 hearC (λw0 => w0.r.ok ∧ w0.r.b.size ≤ 262144) (λ_ => Gl)
abbrev q239 (c : RqX) := (hearV c.r).p.toList == (ByteArray.mk #[115, 48]).toList
abbrev q51 (c : RqX) := fo_rt (fo_vb ((hearV c.r).t.toList == (ByteArray.mk #[104, 116, 116, 112, 58, 47, 47, 119, 119, 119, 46, 119, 51, 46, 111, 114, 103, 47, 84, 82, 47, 115, 99, 120, 109, 108, 47, 35, 66, 97, 115, 105, 99, 72, 84, 84, 80, 69, 118, 101, 110, 116, 80, 114, 111, 99, 101, 115, 115, 111, 114]).toList))
abbrev q219 (c : RqX) : List Value := [fo_vs (hearV c.r).n, fo_vs (hearV c.r).k, fo_vs eNul, fo_vs eNul, fo_vs (hearV c.r).t, fo_vs eNul, fo_vs (hearV c.r).d]
abbrev q0 (F : Atom) (w : LbS) (m : Nat) (q : TdoX) (e : Nat) (f : Bool) (g : RoX) (a : Nat) (c : RqX) := [(0, F), (1, fo_em), (2, fo_cl w.b9 q12 30), (2004, fo_cl m (q112 q) 30), (2005, fo_cl e (q19 f g) 45), (2006, fo_cl a (q219 c) 51)]
theorem lbo_vc (x : LbX) (F : Atom) (hc : lboC.cond x) (hr : lboC.rdc x F) :
 ∀(K : Nat), T141 ([] : List Value) (fo_aR (q80 F K x) []) (λJ I => true = true ∧ fo_sm K 0 ∧ fo_sm K 1 ∧ fo_sm K 2 ∧ fo_sm K 3 ∧ fo_Bd ((x.k : Int) > 20) (Done lboC x F q81 (q80 F K x)) (fo_Bd ((x.b.size : Int) > 800) (Done lboC x F q81 (q80 F K x)) (fo_Bd ((x.n.size : Int) > 60) (Done lboC x F q81 (q80 F K x)) (Br (x.n.toList == q59.toList) (Done lboC x F q81 (q80 F K x)) ((∃(a : LbN), LbN.ok x a ∧ (fo_vs x.n = fo_vs x.n ∧ fo_vl x.a x.k x.c = fo_vl x.a x.k x.c ∧ fo_vs x.b = fo_vs x.b ∧ fo_vb true = fo_vb true ∧ fo_vi ↑x.n.size = fo_vi ↑x.n.size ∧ fo_vi 0 = fo_vi ↑a.i ∧ True) ∧ Ent (q80 F K x) [(0, F)]) ∧ fo_vA λ(H : LbN) _ => LbN.ok x H → fo_Bd ((H.i : Int) < (x.n.size : Int)) (q254 H x ∧ fo_Bd (byteAt x.n (H.i : Int) < 33) (Done lboC x F q81 [(0, F)]) (q254 H x ∧ fo_Bd (byteAt x.n (H.i : Int) > 126) (Done lboC x F q81 [(0, F)]) (fo_rI ((H.i : Int) + 1) ∧ ∃(a : LbN), LbN.ok x a ∧ (fo_vs x.n = fo_vs x.n ∧ fo_vl x.a x.k x.c = fo_vl x.a x.k x.c ∧ fo_vs x.b = fo_vs x.b ∧ fo_vb true = fo_vb true ∧ fo_vi ↑x.n.size = fo_vi ↑x.n.size ∧ fo_vi ((H.i : Int) + 1) = fo_vi ↑a.i ∧ True) ∧ Ent [(0, F)] [(0, F)] ∧ x.n.size - a.i < x.n.size - H.i))) (T142 [fo_vi 1000] (λE D => T143 [fo_vs x.b] (λC B => ∀(A : Nat), fo_sm A 0 ∧ fo_sm A 1 ∧ fo_sm A 2 ∧ fo_sm A 3 ∧ T84 [fo_vp (q17 D), fo_vi (-1)] [fo_cl D q247 60] (λz y => (∃(a : LbS), LbS.ok x a ∧ (fo_vs x.n = fo_vs x.n ∧ fo_vs x.b = fo_vs x.b ∧ fo_vb true = fo_vb true ∧ fo_vp (q17 D) = fo_vp (q303 a) ∧ fo_vp (q17 A) = fo_vp (some ⟨a.b9, 0, none⟩) ∧ fo_vi 0 = fo_vi 0 ∧ fo_vl x.a x.k x.c = fo_vl x.a x.k x.c ∧ fo_vi ↑x.k = fo_vi ↑x.k ∧ fo_vi 0 = fo_vi ↑a.i ∧ True) ∧ Ent [(0, F), (1001, fo_pr (Ex.rest (hoR []) (hoB z.b (z.left - 1) []))), (1002, fo_cl A (q42 C) 30)] (q161 F a x)) ∧ fo_vA λ(w : LbS) _ => LbS.ok x w → fo_Bd ((w.i : Int) < (x.k : Int)) (T30 (opIn Tryz.f3 20 0) [fo_vl x.a x.k x.c, fo_vi ↑w.i] (λu => T25 F ⟨u.b, u.o + u.n.toNat * 2, none⟩ (λr => T25 F ⟨u.b, u.o + u.n.toNat * 2 + 1, none⟩ (λq => ∀(o : Nat), fo_sm o 0 ∧ fo_sm o 1 ∧ fo_sm o 0 ∧ fo_sm o 1 ∧ fo_rI ((r.size : Int) + (q.size : Int)) ∧ fo_Bd ((r.size : Int) + (q.size : Int) > 60) (q39 x F w o r q) (fo_sm o 0 ∧ T144 [fo_vs r] (λm l => Br (!okV m.s) (q39 x F w o r q) (fo_sm o 1 ∧ T144 [fo_vs q] (λj i => Br (!okV j.s) (q39 x F w o r q) (fo_sm o 0 ∧ Br (r.toList == q283.toList) (q39 x F w o r q) (true = true ∧ fo_sm o 0 ∧ T140 [fo_vs r] (λh g => fo_sm o 1 ∧ T143 [fo_vs q] (λf e => T86 [fo_vp (q303 w), fo_vi 0, fo_vs (wideV h.s), agg ⟨q42 f⟩] [fo_pr (Ex.rest (hoR (tvL (kvF (List.take w.i x.fs)))) (hoB w.h w.left (tvL (kvF (List.take w.i x.fs)))))] (λc b => fo_rI ((w.i : Int) + 1) ∧ ∃(a : LbS), LbS.ok x a ∧ (fo_vs x.n = fo_vs x.n ∧ fo_vs x.b = fo_vs x.b ∧ fo_vb true = fo_vb true ∧ fo_vp (q303 w) = fo_vp (q303 a) ∧ fo_vp (some ⟨w.b9, 0, none⟩) = fo_vp (some ⟨a.b9, 0, none⟩) ∧ fo_vi 0 = fo_vi 0 ∧ fo_vl x.a x.k x.c = fo_vl x.a x.k x.c ∧ fo_vi ↑x.k = fo_vi ↑x.k ∧ fo_vi ((w.i : Int) + 1) = fo_vi ↑a.i ∧ True) ∧ Ent [(0, F), (1, fo_pr (Ex.rest (hoR (putV c.k c.v c.l)) (hoB c.b (lftV c.k c.l c.left) (putV c.k c.v c.l)))), (2, fo_cl w.b9 (q260 x) 30), (2003, fo_cl o (q210 r q) 36)] (q161 F a x) ∧ x.k - a.i < x.k - w.i))))))))))))) (fo_sm w.b9 0 ∧ fo_sm w.b9 1 ∧ fo_sm w.b9 2 ∧ fo_sm w.b9 3 ∧ fo_sm w.b9 0 ∧ fo_sm w.b9 1 ∧ fo_sm w.b9 2 ∧ fo_sm w.b9 3 ∧ fo_C4 12 stOC (λq => q158 q ∧ (obV quV q.l).size ≤ 16384) (λ_ => Utf) (λ_ _ => True) [fo_vp (q303 w), agg ⟨q12⟩] [fo_pr (Ex.rest (hoR (tvL (kvF (List.take w.i x.fs)))) (hoB w.h w.left (tvL (kvF (List.take w.i x.fs)))))] (fo_aR [(0, F), (1, fo_pr (Ex.rest (hoR (tvL (kvF (List.take w.i x.fs)))) (hoB w.h w.left (tvL (kvF (List.take w.i x.fs)))))), (2, fo_cl w.b9 q12 30)] [1]) (λq o => ∀(m : Nat), fo_sm m 0 ∧ fo_sm m 1 ∧ fo_sm m 2 ∧ fo_sm m 3 ∧ fo_sm m 2 ∧ T145 [fo_vs (obV quV q.l)] (λl j => T144 [fo_vs x.b] (λi h => Br (!okV i.s) (Done lboC x F q236 [(0, F), (1, fo_em), (2, fo_cl w.b9 q12 30), (2004, fo_cl m (q112 q) 30)]) (fo_C4 14 broC (λg => g.ok) (λ_ => RqG) (λg f => f = decide ((fwB (foL g.n g.l)).size > 4096)) (q128 x l) ([] : List Atom) (fo_aR [(0, F), (1, fo_em), (2, fo_cl w.b9 q12 30), (2004, fo_cl m (q112 q) 30)] []) (λg f => ∀(e : Nat), fo_s5 e (Br ((bif f then (2 : Int) else (0 : Int)) != 0) (Br ((bif f then (2 : Int) else (0 : Int)) == 2) (Done lboC x F q81 (q209 F w m q e f g)) (Done lboC x F (fo_rt (fo_vb ((bif f then (2 : Int) else (0 : Int)) == 1))) (q209 F w m q e f g))) (fo_s5 e (T146 [agg ⟨q19 f g⟩] (fo_aR (q209 F w m q e f g) []) (λc b => ∀(a : Nat), fo_s5 a (fo_sm a 5 ∧ fo_sm a 6 ∧ Br ((nrV l.s).toList == (ByteArray.mk #[123, 125]).toList) (Br (q239 c) (Br ((↑(hearV c.r).s : Int) == 200) (fo_sm a 0 ∧ Br ((hearV c.r).n.toList == x.n.toList) (fo_sm a 6 ∧ Br ((hearV c.r).d.toList == q59.toList) (fo_sm a 4 ∧ Done lboC x F (q51 c) (q0 F w m q e f g a c)) (Done lboC x F q54 (q0 F w m q e f g a c))) (Done lboC x F q54 (q0 F w m q e f g a c))) (Done lboC x F q54 (q0 F w m q e f g a c))) (Done lboC x F q54 (q0 F w m q e f g a c))) (Br (q239 c) (Br ((↑(hearV c.r).s : Int) == 200) (fo_sm a 0 ∧ Br ((hearV c.r).n.toList == x.n.toList) (fo_sm a 6 ∧ Br ((hearV c.r).d.toList == (nrV l.s).toList) (fo_sm a 4 ∧ Done lboC x F (q51 c) (q0 F w m q e f g a c)) (Done lboC x F q54 (q0 F w m q e f g a c))) (Done lboC x F q54 (q0 F w m q e f g a c))) (Done lboC x F q54 (q0 F w m q e f g a c))) (Done lboC x F q54 (q0 F w m q e f g a c))))))))))))))))))))))) := by
  delta q76 T141 q80 q81 q59 q254 T142 q286 T143 T84 q17 q247 q303 q42 q260 q161 q175 T30 T25 q210 q39 T144 q283 T140 T86 q158 q12 T145 q236 q112 q128 q19 q209 T146 q239 q51 q219 q0 q54 fo_aR fo_sm fo_rI fo_s5 fo_C0 fo_C1 fo_C2 fo_C3 fo_C4 fo_vi fo_vs fo_vb fo_vp fo_vl fo_cl fo_pr fo_em fo_Bd fo_rt fo_vA
  have hrg : RqG F := hr.g
  have hrs : Srcd F x.a (fCs x.fs) := hr.s
  have fr : ∀ (S : St) (touch : List Nat), 0 ∉ touch → gt S 0 = F → RqG (.pred (rest S touch)) := λS touch h e => hrg.sub (sub_rest (A := F) 0 h e)
  obtain ⟨n, fs, a, k, c, b⟩ := x
  have hsrc : IsSrc 2 (fCs fs) a k := hc.s
  have hfz : ∀ f ∈ fs, f.1.size ≤ 140737488355328 ∧ f.2.size ≤ 140737488355328 := hc.z
  dsimp only at hrs ⊢
  have hk := hsrc.len
  rw [fCs_length] at hk
  have dn : ∀ (S : St), Ent S (ofL [F]) → Done lboC ⟨n, fs, a, k, c, b⟩ F (returned (bool true)) S := λS h => ⟨(), fo_tv, rfl, h⟩
  intro b0
  refine ⟨awh_ok, rfl, (), rfl, rfl, fo_tv, fr _ _ (by simp) rfl, λ_ _ => ⟨rfl, ?_⟩⟩
  iterate 4 refine ⟨⟨rfl, rfl⟩, ?_⟩
  refine br_decide (λ_ => dn _ (Ent.pick [0] rfl rfl)) (λq1 => br_decide (λ_ => dn _ (Ent.pick [0] rfl rfl)) (λq2 => br_decide (λ_ => dn _ (Ent.pick [0] rfl rfl)) (λq3 => br_intro (λ_ => dn _ (Ent.pick [0] rfl rfl)) (λq4 => ⟨⟨⟨0⟩, ⟨by dsimp only; omega, by dsimp only; omega, by dsimp only; omega, nmq_ne q4, fo_zl _, λj hj => absurd hj (Nat.not_lt_zero _)⟩, ⟨rfl, rfl, rfl, rfl, rfl, rfl, fo_tv⟩, Ent.pick [0] rfl rfl⟩, ?_⟩))))
  rintro ⟨i⟩ js ⟨n1, n2, n3, n4, n5, n6⟩
  dsimp only at n1 n2 n3 n4 n5 n6 ⊢
  refine br_decide (λq => ?_) (λq => ?_)
  · refine ⟨⟨by omega, q⟩, br_decide (λ_ => dn _ (Ent.pick [0] rfl rfl)) (λc1 => ⟨⟨by omega, q⟩, br_decide (λ_ => dn _ (Ent.pick [0] rfl rfl)) (λc2 => ⟨⟨by omega, by omega⟩, ⟨i + 1⟩, ⟨n1, n2, n3, n4, by dsimp only; omega, λj hj => ?_⟩, ⟨rfl, rfl, rfl, rfl, rfl, rfl, fo_tv⟩, Ent.pick [0] rfl rfl, by dsimp only; omega⟩)⟩)⟩
    have hj : j < i + 1 := hj
    by_cases e : j = i
    · subst e
      rw [byteAt_bt2] at c1 c2
      dsimp only
      omega
    · exact n6 j (by omega)
  have hn : NmOk n := nmq_ok n4 n3 λj hj => n6 j (by omega)
  clear q n5 n6 i
  refine ⟨nwk_ok, rfl, (), rfl, rfl, fo_tv, fo_tv, λh _ => ⟨ltx_ok, rfl, ⟨b⟩, rfl, rfl, by dsimp only; omega, fo_tv, λ_ _ b9 => ?_⟩⟩
  iterate 4 refine ⟨⟨rfl, rfl⟩, ?_⟩
  refine ⟨plh_ok, rfl, ⟨h, 1000⟩, rfl, rfl, ⟨by dsimp only; omega, by dsimp only; omega⟩, fo_tv, λ_ _ => ⟨⟨⟨0, h, b9, 999⟩, ⟨hn, n1, fo_zl _, by dsimp only; omega, by dsimp only; omega, λf hf => (by cases hf), n2⟩, ⟨rfl, rfl, rfl, rfl, rfl, rfl, rfl, rfl, rfl, fo_tv⟩, Ent.pick [0, 1001, 1002] rfl rfl⟩, ?_⟩⟩
  clear h b9
  rintro ⟨i, h, b9, left⟩ js ⟨_, _, g3, g4, g5, g6, _⟩
  dsimp only at g3 g4 g5 g6 ⊢
  refine br_decide (λq => ?_) (λq => ?_)
  · have hlt : i < fs.length := by omega
    obtain ⟨c2, o, rfl⟩ := hsrc.some (by omega)
    obtain ⟨f, hf⟩ : ∃ f, fs[i]? = some f := ⟨fs[i], fo_ge hlt⟩
    obtain ⟨k1, k2⟩ := fCs_get hf
    have ht := kvF_take hf
    have hz := hfz f (fo_mg hf)
    have htk : fs.take (i + 1) = fs.take i ++ [f] := by rw [List.take_add_one, hf, Option.toList_some]
    obtain ⟨s1, s2⟩ := f
    dsimp only at hz ht k1 k2
    have hlk : (tvL (kvF (fs.take i))).length ≤ 10000 := by
      have e1 : (tvL (kvF (fs.take i))).length = (kvF (fs.take i)).length := List.length_map _
      have e2 : (kvF (fs.take i)).length ≤ 0 + (fs.take i).length := kvF_len (fs.take i) []
      have e3 : (fs.take i).length ≤ 20 := by rw [List.length_take]; omega
      omega
    have w1 := wd_size s1
    have w2 := wd_size s2
    refine ⟨ixq_ok 2 rfl rfl rfl rfl, ⟨c2, o, k, c, i⟩, rfl, ⟨by dsimp only; omega, q⟩, s1, ?_, s2, ?_, λd => ?_⟩
    · have := Srcd.look hrs k1
      dsimp only
      rw [fo_tn, Nat.mul_comm]
      exact this
    · have := Srcd.look hrs k2
      dsimp only
      rw [fo_tn, Nat.mul_comm i 2, Nat.add_assoc]
      exact this
    iterate 4 refine ⟨⟨rfl, rfl⟩, ?_⟩
    refine ⟨⟨by omega, by omega⟩, br_decide (λ_ => dn _ (Ent.pick [0] rfl rfl)) (λz1 => ⟨⟨rfl, rfl⟩, lrt_ok, rfl, ⟨s1⟩, rfl, rfl, by dsimp only; omega, fo_tv, λ_ _ => br_intro (λ_ => dn _ (Ent.pick [0] rfl rfl)) (λz2 => ⟨⟨rfl, rfl⟩, lrt_ok, rfl, ⟨s2⟩, rfl, rfl, by dsimp only; omega, fo_tv, λ_ _ => br_intro (λ_ => dn _ (Ent.pick [0] rfl rfl)) (λz3 => ⟨⟨rfl, rfl⟩, br_intro (λ_ => dn _ (Ent.pick [0] rfl rfl)) (λz4 => ?_)⟩)⟩)⟩)⟩
    have hfd : FdOk (s1, s2) := ⟨by dsimp only; omega, not_false' z2, not_false' z3, λe => by
      have e : s1 = sName := e
      have t : bEq s1 sName = true := (bEq_eq _ _).2 e
      rw [show bEq s1 sName = false from z4] at t
      cases t⟩
    refine ⟨rfl, ⟨rfl, rfl⟩, lwd_ok, rfl, ⟨s1⟩, rfl, rfl, by dsimp only; omega, fo_tv, λ_ _ => ⟨⟨rfl, rfl⟩, ltx_ok, rfl, ⟨s2⟩, rfl, rfl, by dsimp only; omega, fo_tv, λ_ _ => ⟨puh_ok, rfl, ⟨h, left, tvL (kvF (fs.take i)), wideV s1, .t (wideV s2)⟩, rfl, rfl, ⟨by dsimp only; omega, by dsimp only; omega, by dsimp only; omega, w2.2, hlk⟩, fo_tv, λ_ _ => ⟨⟨by omega, by omega⟩, ⟨i + 1, h, b9, lftV (wideV s1) (tvL (kvF (fs.take i))) left⟩, ⟨hn, n1, by dsimp only; omega, ?_, ?_, ?_, n2⟩, ⟨rfl, rfl, rfl, rfl, rfl, rfl, rfl, rfl, rfl, fo_tv⟩, Ent.pick [0, 1, 2] rfl ?_, by dsimp only; omega⟩⟩⟩⟩
    · show 999 ≤ lftV (wideV s1) (tvL (kvF (fs.take i))) left + ((i + 1 : Nat) : Int)
      unfold lftV
      cases hasK (wideV s1) (tvL (kvF (fs.take i))) <;> simp only [fo_ct, fo_cf] <;> omega
    · show lftV (wideV s1) (tvL (kvF (fs.take i))) left ≤ 999
      unfold lftV
      cases hasK (wideV s1) (tvL (kvF (fs.take i))) <;> simp only [fo_ct, fo_cf] <;> omega
    · intro f hf
      have hf : f ∈ fs.take (i + 1) := hf
      rw [htk] at hf
      rcases List.mem_append.1 hf with hf | hf
      · exact g6 f hf
      · rw [List.mem_singleton.1 hf]; exact hfd
    · dsimp only
      rw [ht, tvL_put] <;> rfl
  have hi : i = fs.length := by omega
  rw [hi, List.take_length] at g6 ⊢
  obtain ⟨l, hkc, hl20, hnd⟩ := kv_all g6 (by omega)
  have hsm : (wid (obX l)).size ≤ 16384 := ob_small hkc.z hl20
  have hobz := wid_size (obX l)
  rw [hkc.e]
  iterate 8 refine ⟨⟨rfl, rfl⟩, ?_⟩
  refine ⟨stO_ok, rfl, ⟨h, left, kvW l⟩, rfl, rfl, ⟨⟨?_, ?_, hnd⟩, by dsimp only; rw [obV_C hkc.s]; exact hsm⟩, (fr _ _ (by simp) rfl).ut, λ_ _ b4 => ?_⟩
  · show (kvW l).length ≤ 10000
    unfold kvW
    rw [List.length_map]; omega
  · intro p hp
    obtain ⟨q, hq, rfl⟩ := List.mem_map.1 hp
    have h1 := hkc.z q hq
    have a1 := wid_le (cs := q.1) (n := 60) (by omega)
    have a2 := wid_le (cs := q.2) (n := 60) (by omega)
    exact ⟨by dsimp only; omega, by dsimp only; omega⟩
  dsimp only
  rw [obV_C hkc.s]
  iterate 5 refine ⟨⟨rfl, rfl⟩, ?_⟩
  refine ⟨lnw_ok, rfl, ⟨wid (obX l)⟩, rfl, rfl, ⟨by dsimp only; omega, by show (wid (obX l)).size % 2 = 0; omega⟩, fo_tv, λ_ _ => ⟨lrt_ok, rfl, ⟨b⟩, rfl, rfl, by dsimp only; omega, fo_tv, λ_ _ => br_intro (λ_ => dn _ (Ent.pick [0] rfl rfl)) (λ_ => ?_)⟩⟩
  dsimp only
  rw [nr_wid (obC_sc hkc.s)]
  refine ⟨bro_ok, rfl, ⟨n, l⟩, rfl, rfl, ⟨hn, λ_ => ⟨hkc.s, hsm, hkc.z, hnd, hl20⟩⟩, fr _ _ (by simp) rfl, λy hy b5 => ?_⟩
  iterate 5 refine ⟨⟨rfl, rfl⟩, ?_⟩
  have hy : y = decide ((fwB (foL n l)).size > 4096) := hy
  cases y with
  | true => exact br_intro (λ_ => br_intro (λ_ => dn _ (Ent.pick [0] rfl rfl)) (λe => absurd e (by decide))) (λe => absurd e (by decide))
  | false =>
  have hsz := fo_od0 hy.symm
  have hfz2 : (fwB (flA n (kvU l))).size ≤ 4096 := by
    have : ¬ (fwB (flA n (kvU l))).size > 4096 := hsz
    omega
  refine br_intro (λe => absurd e (by decide)) (λ_ => ?_)
  iterate 5 refine ⟨⟨rfl, rfl⟩, ?_⟩
  refine ⟨hear_ok, rfl, ⟨rqA n (kvU l)⟩, rfl, rfl, ⟨⟨by show (btL [80, 79, 83, 84]).size ≤ 1048576; decide, by show (btL tS0).size ≤ 1048576; decide, by show (btL [104]).size ≤ 1048576; decide, by show (btL cFm).size ≤ 1048576; decide, by show (fwB (flA n (kvU l))).size ≤ 1048576; omega⟩, by show (fwB (flA n (kvU l))).size ≤ 262144; omega⟩, (fr _ _ (by simp) rfl).gl, λ_ _ b6 => ?_⟩
  iterate 7 refine ⟨⟨rfl, rfl⟩, ?_⟩
  have hlen : (kvU l).length ≤ 31 := by unfold kvU; rw [List.length_map]; omega
  have hko := kvU_ok hkc.s hkc.n
  dsimp only
  by_cases hl : l = []
  · have hh : hearV (rqA n (kvU l)) = .ok (btL [115, 48]) n ⟨#[]⟩ := hear_A hn hfz2 hlen hko.1 hko.2 (.inl ⟨by rw [hl] <;> rfl, rfl⟩)
    rw [hh]
    refine br_eq (by rw [hl]; exact ob_nil) (br_eq rfl (stat_200 ⟨⟨rfl, rfl⟩, br_eq rfl ⟨⟨rfl, rfl⟩, br_eq rfl ⟨⟨rfl, rfl⟩, ?_⟩⟩⟩))
    exact ⟨(), fo_tv, congrArg (λq => returned (bool q)) ((bEq_eq sTyp _).2 rfl), Ent.pick [0] rfl rfl⟩
  · have hh : hearV (rqA n (kvU l)) = .ok (btL [115, 48]) n (utf (obX l)) := hear_A hn hfz2 hlen hko.1 hko.2 (.inr ⟨λe => hl (List.map_eq_nil_iff.1 e), by rw [job_U hkc.s hnd]; exact js_ob hkc.s hsm⟩)
    rw [hh]
    refine br_ne (ob_cons hl) (br_eq rfl (stat_200 ⟨⟨rfl, rfl⟩, br_eq rfl ⟨⟨rfl, rfl⟩, br_eq rfl ⟨⟨rfl, rfl⟩, ?_⟩⟩⟩))
    exact ⟨(), fo_tv, congrArg (λq => returned (bool q)) ((bEq_eq sTyp _).2 rfl), Ent.pick [0] rfl rfl⟩
theorem lbo_ok : fo_k 3 lboC := fo 204 Tryz.func3 (λ_ _ => [(0, 0, .n 1000), (1, 0, .c awhC [] []), (3, 1, .q [.aq 1000]), (3, 3, .q [.aq 1000]), (3, 5, .q [.aq 1000]), (3, 7, .q [.aq 1000]), (12, 0, .c nwkC [] [1001]), (15, 1, .c ltxC [] []), (15, 2, .n 1002), (15, 3, .w (at4u 1002)), (17, 1, .c plC [1001] [1001]), (20, 0, .qo (ixQ 2)), (20, 1, .q [.ex 0 .str, .ex 0 .str]), (20, 2, .n 2003), (20, 3, .w [.aq 2003, .aq 2003]), (21, 1, .q [.aq 2003]), (21, 4, .q [.aq 2003]), (21, 10, .q [.aq 2003]), (21, 11, .c lrtC [] []), (21, 16, .q [.aq 2003]), (21, 17, .c lrtC [] []), (21, 22, .q [.aq 2003]), (23, 3, .q [.aq 2003]), (23, 4, .c lwdC [] []), (23, 6, .q [.aq 2003]), (23, 7, .c ltxC [] []), (23, 8, .c puhC [1] [1]), (25, 2, .w (at4u 2)), (26, 1, .q (at4u 2)), (26, 2, .c stOC [1] []), (26, 6, .n 2004), (26, 7, .w (at4u 2004)), (27, 1, .q [.aq 2004]), (27, 2, .c lnwC [] []), (28, 8, .c lrtC [] []), (30, 5, .c broC [] []), (30, 9, .n 2005), (30, 10, .w (at5 2005)), (33, 0, .q (at5 2005)), (33, 1, .c hearC [] []), (33, 6, .n 2006), (33, 8, .w (at7' 2006)), (36, 8, .q [.aq 2006]), (36, 14, .q [.aq 2006]), (36, 20, .q [.aq 2006])]) [] lboInv fo_i fo_o [] lbo_vc
end
section
open Go
set_option maxHeartbeats 1000000
theorem wideF_bad (s : ByteArray) : ∀ (f i : Nat) (o : List Nat), s.size < i + f → okF s f i = false → wideF s f i o = []
  | 0, i, o, _, h => by rw [okF] at h; cases h
  | f + 1, i, o, hf, h => by
    rw [okF] at h
    by_cases hi : i < s.size
    · rw [fo_dt hi, fo_ct] at h
      rw [wideF, fo_dt hi, fo_ct]
      cases hn : nextV s i with
      | none => rfl
      | some p =>
        obtain ⟨c, m⟩ := p
        rw [hn] at h
        have := next_facts hn
        exact wideF_bad s f (i + m) (o ++ wideC c) (by omega) h
    · rw [fo_df hi] at h; cases h
theorem wide_cs (s : ByteArray) : ∃ cs, Scs cs ∧ wideV s = wid cs ∧ (unL cs).length ≤ s.size ∧ (okV s = true → s = utf cs) := by
  cases h : okV s with
  | true =>
    obtain ⟨cs, h1, h2⟩ := ok_back h
    refine ⟨cs, h1, by rw [h2, wide_ut h1] <;> rfl, ?_, λ_ => h2⟩
    rw [h2, btL_size]
    exact unL_le cs
  | false =>
    refine ⟨[], (λ_ h => nomatch h), ?_, fo_zl _, λe => nomatch e⟩
    have : wideF s (s.size + 1) 0 [] = [] := wideF_bad s _ 0 [] (by omega) h
    unfold wideV
    rw [this] <;> rfl
abbrev lbtC : Con := { lboC with args := λx => [.agg #[.string x.n, .slice x.a x.k x.c, .string x.b, .bool false]] }
def lbtInv (x : LbX) (F : Atom) : Nat → Option Inv := fun
  | 0 => some { X := LbN, P := λd => d.ok x, mu := λd => x.n.size - d.i, lv := λd => [(3, .string x.n), (4, .slice x.a x.k x.c), (5, .string x.b), (6, .bool false), (51, .int .i64 x.n.size), (52, .int .i64 d.i)], st := λ_ => [F] }
  | _ => none
abbrev q77 (F : Atom) (D : Nat) (x : LbX) := [(0, F), (1000, fo_cl D [fo_vs x.n, fo_vl x.a x.k x.c, fo_vs x.b, fo_vb false] 24)]
abbrev q278 (q : StqX) : List Value := [fo_vi 4, float f64 0, fo_vs (quV q.s), fo_vi 0]
abbrev q110 (F : Atom) (w r : Nat) (v : WdX) (m : Nat) (q : StqX) := [(0, F), (1001, fo_cl w q247 60), (1002, fo_cl r (q42 v) 30), (2004, fo_cl m (q278 q) 30)]
abbrev q146 (g : RqtX) : List Value := [fo_vs ⟨#[80, 79, 83, 84]⟩, fo_vs (btL (tQ g.n)), fo_vs ⟨#[104]⟩, fo_vs uTx, fo_vs (utf g.cs)]
abbrev q13 (F : Atom) (w r : Nat) (v : WdX) (m : Nat) (q : StqX) (e : Nat) (g : RqtX) (a : Nat) (c : RqX) := [(0, F), (1001, fo_cl w q247 60), (1002, fo_cl r (q42 v) 30), (2004, fo_cl m (q278 q) 30), (2005, fo_cl e (q146 g) 45), (2006, fo_cl a (q219 c) 51)]
theorem lbt_vc (x : LbX) (F : Atom) (hc : lbtC.cond x) (hr : lbtC.rdc x F) :
 ∀(D : Nat), T141 ([] : List Value) (fo_aR (q77 F D x) []) (λC B => true = true ∧ fo_sm D 0 ∧ fo_sm D 1 ∧ fo_sm D 2 ∧ fo_sm D 3 ∧ fo_Bd ((x.k : Int) > 20) (Done lbtC x F q81 (q77 F D x)) (fo_Bd ((x.b.size : Int) > 800) (Done lbtC x F q81 (q77 F D x)) (fo_Bd ((x.n.size : Int) > 60) (Done lbtC x F q81 (q77 F D x)) (Br (x.n.toList == q59.toList) (Done lbtC x F q81 (q77 F D x)) ((∃(a : LbN), LbN.ok x a ∧ (fo_vs x.n = fo_vs x.n ∧ fo_vl x.a x.k x.c = fo_vl x.a x.k x.c ∧ fo_vs x.b = fo_vs x.b ∧ fo_vb false = fo_vb false ∧ fo_vi ↑x.n.size = fo_vi ↑x.n.size ∧ fo_vi 0 = fo_vi ↑a.i ∧ True) ∧ Ent (q77 F D x) [(0, F)]) ∧ fo_vA λ(A : LbN) _ => LbN.ok x A → fo_Bd ((A.i : Int) < (x.n.size : Int)) (q254 A x ∧ fo_Bd (byteAt x.n (A.i : Int) < 33) (Done lbtC x F q81 [(0, F)]) (q254 A x ∧ fo_Bd (byteAt x.n (A.i : Int) > 126) (Done lbtC x F q81 [(0, F)]) (fo_rI ((A.i : Int) + 1) ∧ ∃(a : LbN), LbN.ok x a ∧ (fo_vs x.n = fo_vs x.n ∧ fo_vl x.a x.k x.c = fo_vl x.a x.k x.c ∧ fo_vs x.b = fo_vs x.b ∧ fo_vb false = fo_vb false ∧ fo_vi ↑x.n.size = fo_vi ↑x.n.size ∧ fo_vi ((A.i : Int) + 1) = fo_vi ↑a.i ∧ True) ∧ Ent [(0, F)] [(0, F)] ∧ x.n.size - a.i < x.n.size - A.i))) (T142 [fo_vi 1000] (λy w => T143 [fo_vs x.b] (λv u => ∀(r : Nat), fo_sm r 0 ∧ fo_sm r 1 ∧ fo_sm r 2 ∧ fo_sm r 3 ∧ fo_sm r 0 ∧ fo_sm r 1 ∧ fo_sm r 2 ∧ fo_sm r 3 ∧ fo_C2 12 stTC (λq => q.s.size ≤ 1048576 ∧ (quV q.s).size ≤ 16384) (λ_ => Utf) [fo_vp (q17 w), agg ⟨q42 v⟩] (fo_aR [(0, F), (1001, fo_cl w q247 60), (1002, fo_cl r (q42 v) 30)] []) (λq o => ∀(m : Nat), fo_sm m 0 ∧ fo_sm m 1 ∧ fo_sm m 2 ∧ fo_sm m 3 ∧ fo_sm m 2 ∧ T145 [fo_vs (quV q.s)] (λl j => T144 [fo_vs x.b] (λi h => Br (!okV i.s) (Done lbtC x F q236 (q110 F w r v m q)) (Br (x.b.toList == q59.toList) (Done lbtC x F q236 (q110 F w r v m q)) (fo_C2 14 rtxC (λg => g.ok) (λ_ => RqG) (q128 x l) (fo_aR (q110 F w r v m q) []) (λg f => ∀(e : Nat), fo_s5 e (fo_s5 e (T146 [agg ⟨q146 g⟩] (fo_aR [(0, F), (1001, fo_cl w q247 60), (1002, fo_cl r (q42 v) 30), (2004, fo_cl m (q278 q) 30), (2005, fo_cl e (q146 g) 45)] []) (λc b => ∀(a : Nat), fo_s5 a (fo_sm a 5 ∧ fo_sm a 6 ∧ Br (q239 c) (Br ((↑(hearV c.r).s : Int) == 200) (fo_sm a 0 ∧ Br ((hearV c.r).n.toList == x.n.toList) (fo_sm a 6 ∧ Br ((hearV c.r).d.toList == (nrV l.s).toList) (fo_sm a 4 ∧ Done lbtC x F (q51 c) (q13 F w r v m q e g a c)) (Done lbtC x F q54 (q13 F w r v m q e g a c))) (Done lbtC x F q54 (q13 F w r v m q e g a c))) (Done lbtC x F q54 (q13 F w r v m q e g a c))) (Done lbtC x F q54 (q13 F w r v m q e g a c)))))))))))))))))))) := by
  delta q76 T141 q77 q81 q59 q254 T142 q286 T143 q17 q42 q247 T145 T144 q236 q278 q110 q128 T146 q146 q239 q51 q219 q13 q54 fo_aR fo_sm fo_rI fo_s5 fo_C0 fo_C1 fo_C2 fo_vi fo_vs fo_vb fo_vp fo_vl fo_cl fo_Bd fo_rt fo_vA
  have hrg : RqG F := hr.g
  have hrs : Srcd F x.a (fCs x.fs) := hr.s
  have fr : ∀ (S : St) (touch : List Nat), 0 ∉ touch → gt S 0 = F → RqG (.pred (rest S touch)) := λS touch h e => hrg.sub (sub_rest (A := F) 0 h e)
  obtain ⟨n, fs, a, k, c, b⟩ := x
  have hsrc : IsSrc 2 (fCs fs) a k := hc.s
  have hfz : ∀ f ∈ fs, f.1.size ≤ 140737488355328 ∧ f.2.size ≤ 140737488355328 := hc.z
  dsimp only at hrs ⊢
  have hk := hsrc.len
  rw [fCs_length] at hk
  have dn : ∀ (S : St), Ent S (ofL [F]) → Done lbtC ⟨n, fs, a, k, c, b⟩ F (returned (bool true)) S := λS h => ⟨(), fo_tv, rfl, h⟩
  intro b0
  refine ⟨awh_ok, rfl, (), rfl, rfl, fo_tv, fr _ _ (by simp) rfl, λ_ _ => ⟨rfl, ?_⟩⟩
  iterate 4 refine ⟨⟨rfl, rfl⟩, ?_⟩
  refine br_decide (λ_ => dn _ (Ent.pick [0] rfl rfl)) (λq1 => br_decide (λ_ => dn _ (Ent.pick [0] rfl rfl)) (λq2 => br_decide (λ_ => dn _ (Ent.pick [0] rfl rfl)) (λq3 => br_intro (λ_ => dn _ (Ent.pick [0] rfl rfl)) (λq4 => ⟨⟨⟨0⟩, ⟨by dsimp only; omega, by dsimp only; omega, by dsimp only; omega, nmq_ne q4, fo_zl _, λj hj => absurd hj (Nat.not_lt_zero _)⟩, ⟨rfl, rfl, rfl, rfl, rfl, rfl, fo_tv⟩, Ent.pick [0] rfl rfl⟩, ?_⟩))))
  rintro ⟨i⟩ js ⟨n1, n2, n3, n4, n5, n6⟩
  dsimp only at n1 n2 n3 n4 n5 n6 ⊢
  refine br_decide (λq => ?_) (λq => ?_)
  · refine ⟨⟨by omega, q⟩, br_decide (λ_ => dn _ (Ent.pick [0] rfl rfl)) (λc1 => ⟨⟨by omega, q⟩, br_decide (λ_ => dn _ (Ent.pick [0] rfl rfl)) (λc2 => ⟨⟨by omega, by omega⟩, ⟨i + 1⟩, ⟨n1, n2, n3, n4, by dsimp only; omega, λj hj => ?_⟩, ⟨rfl, rfl, rfl, rfl, rfl, rfl, fo_tv⟩, Ent.pick [0] rfl rfl, by dsimp only; omega⟩)⟩)⟩
    have hj : j < i + 1 := hj
    by_cases e : j = i
    · subst e
      rw [byteAt_bt2] at c1 c2
      dsimp only
      omega
    · exact n6 j (by omega)
  have hn : NmOk n := nmq_ok n4 n3 λj hj => n6 j (by omega)
  clear q n5 n6 i
  refine ⟨nwk_ok, rfl, (), rfl, rfl, fo_tv, fo_tv, λh _ => ⟨ltx_ok, rfl, ⟨b⟩, rfl, rfl, by dsimp only; omega, fo_tv, λ_ _ b9 => ?_⟩⟩
  iterate 8 refine ⟨⟨rfl, rfl⟩, ?_⟩
  obtain ⟨cs, w1, w2, w3, w4⟩ := wide_cs b
  have hql := quU_len (unL cs)
  have hqz : (wid (qxC cs)).size ≤ 16384 := by
    rw [wid_size, quC_un]
    omega
  have hqe := wid_size (qxC cs)
  have hwe := wid_size cs
  dsimp only
  rw [w2]
  refine ⟨stT_ok, rfl, ⟨h, wid cs⟩, rfl, rfl, ⟨by dsimp only; omega, by dsimp only; rw [quV_C w1]; exact hqz⟩, (fr _ _ (by simp) rfl).ut, λ_ _ b4 => ?_⟩
  dsimp only
  rw [quV_C w1]
  iterate 5 refine ⟨⟨rfl, rfl⟩, ?_⟩
  refine ⟨lnw_ok, rfl, ⟨wid (qxC cs)⟩, rfl, rfl, ⟨by dsimp only; omega, by show (wid (qxC cs)).size % 2 = 0; omega⟩, fo_tv, λ_ _ => ⟨lrt_ok, rfl, ⟨b⟩, rfl, rfl, by dsimp only; omega, fo_tv, λ_ _ => br_intro (λ_ => dn _ (Ent.pick [0] rfl rfl)) (λz => br_intro (λ_ => dn _ (Ent.pick [0] rfl rfl)) (λz2 => ?_))⟩⟩
  have hb : okV b = true := not_false' z
  have hb0 : b.size ≠ 0 := nmq_ne z2
  have hbu := w4 hb
  have hce : cs ≠ [] := λe => hb0 (by rw [hbu, e] <;> rfl)
  dsimp only
  rw [nr_wid (quC_sc w1)]
  refine ⟨rtx_ok, rfl, ⟨n, cs⟩, rfl, rfl, ⟨hn, w1, hce, by dsimp only; rw [← hbu]; exact n2, hqz⟩, fr _ _ (by simp) rfl, λ_ _ b5 => ?_⟩
  iterate 10 refine ⟨⟨rfl, rfl⟩, ?_⟩
  have htz : (btL (tQ n)).size ≤ 256 := by rw [btL_size]; exact (tQ_ok hn).len
  refine ⟨hear_ok, rfl, ⟨rqB n (utf cs)⟩, rfl, rfl, ⟨⟨by show (btL [80, 79, 83, 84]).size ≤ 1048576; decide, by show (btL (tQ n)).size ≤ 1048576; omega, by show (btL [104]).size ≤ 1048576; decide, by show (btL cTx).size ≤ 1048576; decide, by show (utf cs).size ≤ 1048576; rw [← hbu]; omega⟩, by show (utf cs).size ≤ 262144; rw [← hbu]; omega⟩, (fr _ _ (by simp) rfl).gl, λ_ _ b6 => ?_⟩
  iterate 7 refine ⟨⟨rfl, rfl⟩, ?_⟩
  have hh : hearV (rqB n (utf cs)) = .ok (btL [115, 48]) n (utf (qxC cs)) := hear_B hn (by rw [← hbu]; exact hb) (by rw [← hbu]; exact hb0) (by rw [wide_utf w1, quV_C w1]; exact js_qu w1 hqz)
  dsimp only
  rw [hh]
  refine br_eq rfl (stat_200 ⟨⟨rfl, rfl⟩, br_eq rfl ⟨⟨rfl, rfl⟩, br_eq rfl ⟨⟨rfl, rfl⟩, ?_⟩⟩⟩)
  exact ⟨(), fo_tv, congrArg (λq => returned (bool q)) ((bEq_eq sTyp _).2 rfl), Ent.pick [0] rfl rfl⟩
theorem lbt_ok : fo_k 3 lbtC := fo 204 Tryz.func3 (λ_ _ => [(0, 0, .n 1000), (1, 0, .c awhC [] []), (3, 1, .q [.aq 1000]), (3, 3, .q [.aq 1000]), (3, 5, .q [.aq 1000]), (3, 7, .q [.aq 1000]), (12, 0, .c nwkC [] [1001]), (15, 1, .c ltxC [] []), (15, 2, .n 1002), (15, 3, .w (at4u 1002)), (26, 1, .q (at4u 1002)), (26, 2, .c stTC [] []), (26, 6, .n 2004), (26, 7, .w (at4u 2004)), (27, 1, .q [.aq 2004]), (27, 2, .c lnwC [] []), (28, 8, .c lrtC [] []), (30, 5, .c rtxC [] []), (30, 9, .n 2005), (30, 10, .w (at5 2005)), (33, 0, .q (at5 2005)), (33, 1, .c hearC [] []), (33, 6, .n 2006), (33, 8, .w (at7' 2006)), (36, 8, .q [.aq 2006]), (36, 14, .q [.aq 2006]), (36, 20, .q [.aq 2006])]) [] lbtInv fo_i fo_o [] lbt_vc
structure LbbX where
  x : LbX
  o : Bool
abbrev lbbC : Con where
  X := LbbX
  Y := Unit
  args z := [.agg #[.string z.x.n, .slice z.x.a z.x.k z.x.c, .string z.x.b, .bool z.o]]
  pre _ := []
  cond z := LbOk z.x
  rdc z F := LbRd z.x F
  rel _ _ := True
  val _ _ := .returned (.bool true)
  post _ _ := []
  rmono _ _ _ hs h := ⟨h.g.sub hs, h.s.sub hs⟩
theorem lbb_ok : fo_k 3 lbbC := ⟨λz F I w hc hr hs => by
  obtain ⟨x, o⟩ := z
  cases o with
  | true => exact lbo_ok.h x F I w hc hr hs
  | false => exact lbt_ok.h x F I w hc hr hs⟩
end
end Go.Proofs.YtjdabjmjldiodaaGreatDoor
