/- Names and descriptors: HasPrefix, Match, and the reference's Match. -/
import Derived.Test.YtkmdgnbfojkcnaaLatE
set_option linter.all false
namespace Go.Proofs.Ytkmdgnbfojkcnaa
open Go
set_option maxHeartbeats 1000000
structure StrX where
  a : ByteArray
  b : ByteArray
def hpB (s p : ByteArray) : Bool := decide (s.size ≥ p.size) && (s.extract 0 p.size).toList == p.toList
def hpC : Con where
  X := StrX
  Y := Unit
  args x := [.string x.a, .string x.b]
  pre _ := []
  cond _ := True
  rdc _ _ := True
  rel _ _ := True
  val x _ := .returned (.bool (hpB x.a x.b))
  post _ _ := []
noncomputable def hpi_H (x : Con.X hpC) (F : Atom) : Hints where
  op := hk (((fun _ _ => []) x F) ++ [])
  inv := (fun _ _ _ => none) x F
  cut := (fun _ _ _ => none) x F
  ord := (fun _ => [])
open Go.Value (int slice string bool pointer agg tuple func) in
open Go.IntKind (i64) in
set_option maxRecDepth 100000 in
theorem hpi_vc (x : StrX) (F : Atom) (hc : Con.cond hpC x) (hr : Con.rdc hpC x F) :
  Br (decide ((↑x.a.size : Int) ≥ (↑x.b.size : Int))) (((0 : Int) ≤ (0 : Int) ∧ (0 : Int) ≤ (↑x.b.size : Int) ∧ (↑x.b.size : Int) ≤ (↑x.a.size : Int)) ∧ Done hpC x F (Ending.returned (bool ((x.a.extract (Int.toNat (0 : Int)) (↑x.b.size : Int).toNat).toList == x.b.toList))) [(0, F)]) (Done hpC x F (Ending.returned (bool false)) [(0, F)]) := by
  have e0 : (↑x.b.size : Int).toNat = x.b.size := Int.toNat_natCast _
  refine br_decide (fun h => ⟨⟨by omega, by omega, by omega⟩, (), trivial, retB ?_, Ent.pick [0] rfl rfl⟩) (fun h => ⟨(), trivial, retB ?_, Ent.pick [0] rfl rfl⟩)
  · unfold hpB
    rw [decide_eq_true (show x.a.size ≥ x.b.size by omega), e0]
    simp
  · unfold hpB
    rw [decide_eq_false (show ¬ x.a.size ≥ x.b.size by omega)]
    simp
set_option maxRecDepth 100000 in
theorem hpi_ok : FnOk Try.prog 105 hpC :=
  fnOk (N := 18) (by kernel_rfl) Try.func105 rfl (by kernel_rfl) (fun _ => Nat.le_of_ble_eq_true rfl) hpi_H [] fun x F hc hr => Eq.mpr (by kernel_rfl) (hpi_vc x F hc hr)
def hpOv (_x : StrX) (_F : Atom) : List (Nat × Nat × OH) := [(1, 2, .c hpC [] [])]
noncomputable def hp_H (x : Con.X hpC) (F : Atom) : Hints where
  op := hk ((hpOv x F) ++ [])
  inv := (fun _ _ _ => none) x F
  cut := (fun _ _ _ => none) x F
  ord := (fun _ => [])
open Go.Value (int slice string bool pointer agg tuple func) in
open Go.IntKind (i64) in
set_option maxRecDepth 100000 in
theorem hp_vc (x : StrX) (F : Atom) (hc : Con.cond hpC x) (hr : Con.rdc hpC x F) :
  FnOk Try.prog 105 hpC ∧ true = true ∧ ∃ (x_1 : StrX), [string x.a, string x.b] = [string x_1.a, string x_1.b] ∧ ([] : List Atom) = [] ∧ True ∧ True ∧ ∀ (y : Unit), True → Done hpC x F (Ending.returned (bool (hpB x_1.a x_1.b))) [(0, F)] := by
  exact ⟨hpi_ok, rfl, x, rfl, rfl, trivial, trivial, fun _ _ => ⟨(), trivial, rfl, Ent.pick [0] rfl rfl⟩⟩
set_option maxRecDepth 100000 in
theorem hp_ok : FnOk Try.prog 79 hpC :=
  fnOk (N := 8) (by kernel_rfl) Try.func79 rfl (by kernel_rfl) (fun _ => Nat.le_of_ble_eq_true rfl) hp_H [] fun x F hc hr => Eq.mpr (by kernel_rfl) (hp_vc x F hc hr)
def dot : ByteArray := ⟨#[46]⟩
def star : ByteArray := ⟨#[42]⟩
def matchB (d n : ByteArray) : Bool := (d.toList == star.toList) || ((d.toList == n.toList) || hpB n (d ++ dot))
def mtC : Con where
  X := StrX
  Y := Unit
  args x := [.string x.a, .string x.b]
  pre _ := []
  cond x := x.a.size ≤ 4611686018427387904
  rdc _ _ := True
  rel _ _ := True
  val x _ := .returned (.bool (matchB x.a x.b))
  post _ _ := []
def mtOv (_x : StrX) (_F : Atom) : List (Nat × Nat × OH) := [(1, 11, .c hpC [] [])]
noncomputable def mt_H (x : Con.X mtC) (F : Atom) : Hints where
  op := hk ((mtOv x F) ++ [])
  inv := (fun _ _ _ => none) x F
  cut := (fun _ _ _ => none) x F
  ord := (fun _ => [])
open Go.Value (int slice string bool pointer agg tuple func) in
open Go.IntKind (i64) in
set_option maxRecDepth 100000 in
theorem mt_vc (x : StrX) (F : Atom) (hc : Con.cond mtC x) (hr : Con.rdc mtC x F) :
  Br (x.a.toList == (ByteArray.mk #[(42 : UInt8)]).toList) (Done mtC x F (Ending.returned (bool true)) [(0, F)]) (Br (x.a.toList == x.b.toList) (Done mtC x F (Ending.returned (bool true)) [(0, F)]) (x.a.size + 1 ≤ 9223372036854775807 ∧ FnOk Try.prog 79 hpC ∧ true = true ∧ ∃ (x_1 : StrX), [string x.b, string (x.a ++ (ByteArray.mk #[(46 : UInt8)]))] = [string x_1.a, string x_1.b] ∧ ([] : List Atom) = [] ∧ True ∧ True ∧ ∀ (y : Unit), True → Done mtC x F (Ending.returned (bool (hpB x_1.a x_1.b))) [(0, F)])) := by
  have hs : x.a.size ≤ 4611686018427387904 := hc
  refine br_intro (fun h1 => ⟨(), trivial, retB ?_, Ent.pick [0] rfl rfl⟩) (fun h1 => br_intro (fun h2 => ⟨(), trivial, retB ?_, Ent.pick [0] rfl rfl⟩) (fun h2 => ⟨by omega, hp_ok, rfl, ⟨x.b, x.a ++ dot⟩, rfl, rfl, trivial, trivial, fun _ _ => ⟨(), trivial, retB ?_, Ent.pick [0] rfl rfl⟩⟩))
  · unfold matchB star
    rw [h1]; rfl
  · unfold matchB
    rw [h2]; simp
  · unfold matchB star
    rw [h1, h2]; rfl
set_option maxRecDepth 100000 in
theorem mt_ok : FnOk Try.prog 39 mtC :=
  fnOk (N := 18) (by kernel_rfl) Try.func39 rfl (by kernel_rfl) (fun _ => Nat.le_of_ble_eq_true rfl) mt_H [] fun x F hc hr => Eq.mpr (by kernel_rfl) (mt_vc x F hc hr)
theorem ex0 (s : ByteArray) (n : Nat) : (s.extract 0 n).toList = s.data.toList.take n := by
  rw [ByteArray.toList_eq]
  simp
theorem sz_len (s : ByteArray) : s.data.toList.length = s.size := by simp
theorem hp_dot (d n : ByteArray) : hpB n (d ++ dot) = (decide (n.size > d.size) && (((n.extract 0 d.size).toList == d.toList) && (byteAt n d.size == 46))) := by
  unfold hpB
  have hds : (d ++ dot).size = d.size + 1 := by rw [ByteArray.size_append]; rfl
  rw [hds, ex0, ex0, ByteArray.toList_eq d, ByteArray.toList_eq (d ++ dot)]
  have hap : (d ++ dot).data.toList = d.data.toList ++ [46] := by simp [dot]
  rw [hap]
  have hn := sz_len n
  have hd := sz_len d
  by_cases h : n.size > d.size
  · rw [decide_eq_true (show n.size ≥ d.size + 1 by omega), decide_eq_true h, Bool.true_and, Bool.true_and]
    have hlt : d.size < n.data.toList.length := by omega
    have htk : n.data.toList.take (d.size + 1) = n.data.toList.take d.size ++ [n.data.toList[d.size]] := by rw [List.take_add_one, List.getElem?_eq_getElem hlt]; rfl
    rw [htk]
    have hb : byteAt n d.size = (n.data.toList[d.size]).toNat := by
      unfold byteAt
      rw [Int.toNat_natCast, List.getD_eq_getElem?_getD, List.getElem?_eq_getElem hlt]; rfl
    rw [hb, Bool.eq_iff_iff]
    simp only [beq_iff_eq, Bool.and_eq_true]
    constructor
    · intro e
      obtain ⟨e1, e2⟩ := List.append_inj' e rfl
      refine ⟨e1, ?_⟩
      have : n.data.toList[d.size] = 46 := by simpa using e2
      rw [this]; rfl
    · rintro ⟨e1, e2⟩
      rw [e1]
      congr 1
      have : n.data.toList[d.size].toNat = (46 : UInt8).toNat := Int.ofNat_inj.1 e2
      rw [UInt8.toNat_inj.1 this]
  · rw [decide_eq_false (show ¬ n.size ≥ d.size + 1 by omega), decide_eq_false h]
    rfl
def rmtC : Con where
  X := StrX
  Y := Unit
  args x := [.string x.a, .string x.b]
  pre _ := []
  cond x := x.a.size ≤ 4611686018427387904
  rdc _ _ := True
  rel _ _ := True
  val x _ := .returned (.bool (matchB x.a x.b))
  post _ _ := []
noncomputable def rmt_H (x : Con.X rmtC) (F : Atom) : Hints where
  op := hk (((fun _ _ => []) x F) ++ [])
  inv := (fun _ _ _ => none) x F
  cut := (fun _ _ _ => none) x F
  ord := (fun _ => [])
open Go.Value (int slice string bool pointer agg tuple func) in
open Go.IntKind (i64) in
set_option maxRecDepth 100000 in
theorem rmt_vc (x : StrX) (F : Atom) (hc : Con.cond rmtC x) (hr : Con.rdc rmtC x F) :
  Br (x.a.toList == (ByteArray.mk #[(42 : UInt8)]).toList) (Done rmtC x F (Ending.returned (bool true)) [(0, F)]) (Br (x.a.toList == x.b.toList) (Done rmtC x F (Ending.returned (bool true)) [(0, F)]) (Br (decide ((↑x.b.size : Int) > (↑x.a.size : Int))) (((0 : Int) ≤ (0 : Int) ∧ (0 : Int) ≤ (↑x.a.size : Int) ∧ (↑x.a.size : Int) ≤ (↑x.b.size : Int)) ∧ Br ((x.b.extract (Int.toNat (0 : Int)) (↑x.a.size : Int).toNat).toList == x.a.toList) (((0 : Int) ≤ (↑x.a.size : Int) ∧ (↑x.a.size : Int) < (↑x.b.size : Int)) ∧ Done rmtC x F (Ending.returned (bool (byteAt x.b (↑x.a.size : Int) == (46 : Int)))) [(0, F)]) (Done rmtC x F (Ending.returned (bool false)) [(0, F)])) (Done rmtC x F (Ending.returned (bool false)) [(0, F)]))) := by
  have e0 : (↑x.a.size : Int).toNat = x.a.size := Int.toNat_natCast _
  refine br_intro (fun h1 => ⟨(), trivial, retB ?_, Ent.pick [0] rfl rfl⟩) (fun h1 => br_intro (fun h2 => ⟨(), trivial, retB ?_, Ent.pick [0] rfl rfl⟩) (fun h2 => br_decide (fun h3 => ⟨⟨by omega, by omega, by omega⟩, br_intro (fun h4 => ⟨⟨by omega, by omega⟩, (), trivial, retB ?_, Ent.pick [0] rfl rfl⟩) (fun h4 => ⟨(), trivial, retB ?_, Ent.pick [0] rfl rfl⟩)⟩) (fun h3 => ⟨(), trivial, retB ?_, Ent.pick [0] rfl rfl⟩)))
  · unfold matchB star
    rw [h1]; rfl
  · unfold matchB
    rw [h2]; simp
  · unfold matchB star
    rw [h1, h2, hp_dot x.a x.b]
    rw [e0] at h4
    rw [decide_eq_true (show x.b.size > x.a.size by omega)]
    have h4' : ((x.b.extract 0 x.a.size).toList == x.a.toList) = true := h4
    rw [h4']; simp
  · unfold matchB star
    rw [h1, h2, hp_dot x.a x.b]
    rw [e0] at h4
    have h4' : ((x.b.extract 0 x.a.size).toList == x.a.toList) = false := h4
    rw [h4']; simp
  · unfold matchB star
    rw [h1, h2, hp_dot x.a x.b, decide_eq_false (show ¬ x.b.size > x.a.size by omega)]
    simp
set_option maxRecDepth 100000 in
theorem rmt_ok : FnOk Try.prog 40 rmtC :=
  fnOk (N := 32) (by kernel_rfl) Try.func40 rfl (by kernel_rfl) (fun _ => Nat.le_of_ble_eq_true rfl) rmt_H [] fun x F hc hr => Eq.mpr (by kernel_rfl) (rmt_vc x F hc hr)
end Go.Proofs.Ytkmdgnbfojkcnaa
