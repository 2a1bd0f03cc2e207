/- A part of the proof that pennantlaw23.BasicBack answers true at every input. -/
import Derived.Test.YtjdabjmjldiodaaGreatDoorPBaq
set_option linter.all false
namespace Go.Proofs.YtjdabjmjldiodaaGreatDoor
set_option maxRecDepth 100000
open Go.Value (int slice string bool pointer agg tuple func float iface nilIface)
open Go.IntKind (i64 u8 u64 i32 u32 u16 i8 i16)
open Go.FloatKind (f64)
open Go.Ending (returned panicked)
section
open Go Go.ChangeShapes Go.WideShapes Go.ChangeAt Go.RowKit Go.ChangeMaps
noncomputable def w0H (os : Os) : World :=
  { World.holding Tryz.prog os ⟨#[], #[], []⟩ with heap := (World.holding Tryz.prog os ⟨#[], #[], []⟩).heap.modify 5 fun
      | .cells _ t fr => .cells #[.iface 298 (.agg #[typeHandle Tryz.prog 173])] t fr
      | o => o }
noncomputable def wH (os : Os) : World := (w0H os).layVars Tryz.prog laidL
theorem wH_os (os : Os) : (wH os).os = os := World.layVars_os _ _ _
theorem wH_fits (os : Os) : (w0H os).layFits Tryz.prog laidL [] = true := by kernel_rfl
theorem wH_ifaces (os : Os) : (w0H os).layIfaces Tryz.prog laidL (wH os) = true := by kernel_rfl
theorem wH_met (os : Os) (args : Array Value) : laidMetH Tryz.prog Rows.basicBackRow.laid ((wH os).forCall (λ_ _ => 0) ⟨#[], args, []⟩).memory := by
  refine laidMetH_iff.2 ⟨?_, ?_⟩
  · rw [laidL_eq]
    have e1 : (laidL.filter λx => (laidL.map (·.1)).contains x.1) = laidL := List.filter_eq_self.2 λx hx => List.contains_iff_mem.2 (List.mem_map.2 ⟨x, hx, rfl⟩)
    have e2 : (laidL.filter λx => !(laidL.map (·.1)).contains x.1) = [] := List.filter_eq_nil_iff.2 λx hx => by rw [List.contains_iff_mem.2 (List.mem_map.2 ⟨x, hx, rfl⟩)]; simp
    have h : laidMet Tryz.prog laidL (wH os) := laidMet_layVars (w0 := w0H os) (laidL.map (·.1)) [] (by rw [e1] <;> rfl) (by rw [e1]; exact wH_fits os) (by rw [e1]; exact wH_ifaces os) (by rw [e2]; exact LaidIn.none)
    exact h.of_heap (by simp [World.memory, World.forCall, Input.heap])
  · rw [hndL_eq]
    intro x hx
    rcases List.mem_singleton.1 hx with rfl
    have e : (Rows.laid_errors_errorType : DataW Unit).funcsIn? = none := by kernel_rfl
    dsimp only
    rw [e]
    exact ⟨[101, 114, 114, 111, 114], 298, 173, by kernel_rfl, by kernel_rfl, fo_od1 (by kernel_rfl), by kernel_rfl, by kernel_rfl⟩
theorem wH_shaped (os : Os) (args : Array Value) : ((wH os).forCall (λ_ _ => 0) ⟨#[], args, []⟩).Shaped Tryz.prog := World.shaped_of_ZipB (by kernel_rfl) (by kernel_rfl)
end
end Go.Proofs.YtjdabjmjldiodaaGreatDoor
