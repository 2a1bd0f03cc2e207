/- A part of the proof that pennantlaw23.BasicBack answers true at every input. -/
import Derived.Test.YtjdabjmjldiodaaGreatDoorPBar
set_option linter.all false
namespace Go.Proofs.YtjdabjmjldiodaaGreatDoor
set_option maxRecDepth 100000
open Go.Value (int slice string bool pointer agg tuple func float iface nilIface)
open Go.IntKind (i64 u8 u64 i32 u32 u16 i8 i16)
open Go.FloatKind (f64)
open Go.Ending (returned panicked)
section
open Go
theorem jf0 : (Rows.basicBackRow.wf (OpenSpec.ofChange (OpenSpec.ofChange Rows.basicBackSpec).bare)) = true := by kernel_rfl
theorem jf1 : (laidOutB Tryz.prog) = true := by kernel_rfl
theorem jf2 : (mapsRowed Tryz.prog) = true := by kernel_rfl
theorem jf3 : ((Rows.basicBackRow.inPlace == Tryz.prog.inPlace 3)) = true := by kernel_rfl
theorem jf4 : ((Rows.basicBackRow.unfollowed == Tryz.prog.unfollowed 3)) = true := by kernel_rfl
theorem jf5 : ((Rows.basicBackRow.recurses == Tryz.prog.recurses 3)) = true := by kernel_rfl
theorem jf6 : ((Rows.basicBackRow.named == Tryz.prog.varsNamed 3)) = true := by kernel_rfl
theorem jf_all : joinedFacts Tryz.prog 3 Tryz.f3 (OpenSpec.ofChange Rows.basicBackSpec).bare Rows.basicBackRow = true := by
  unfold joinedFacts
  rw [jf0, jf1, jf2, jf3, jf4, jf5, jf6]
  kernel_rfl
theorem bck_w : Rows.basicBackRow.wfByText (OpenSpec.ofChange Rows.basicBackSpec) = true := by kernel_rfl
theorem bck_m : Tryz.prog.mainIs = some (true, "6da337421393a306339eb22609e1828f32f357c7e94144c52cb6dd7ec7c5930c".toList) := by kernel_rfl
theorem bck_g : false = Rows.basicBackRow.goesBy Tryz.prog := by kernel_rfl
end
end Go.Proofs.YtjdabjmjldiodaaGreatDoor
