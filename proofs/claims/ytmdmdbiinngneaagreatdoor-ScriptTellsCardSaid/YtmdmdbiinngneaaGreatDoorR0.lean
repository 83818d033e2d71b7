import Derived.Test.YtmdmdbiinngneaaGreatDoorRows
import Derived.Test.YtmdmdbiinngneaaGreatDoorQ6
import Derived.WalkKit
import Derived.ProofKit
import Derived.OpenShut
import Derived.ShutString
import Derived.ChangeOld
import Derived.Below
import Derived.SizedLaws
import Derived.LaidMore
import Derived.Lib.LaidTab
import Derived.Stop.LaidErr
import Derived.Stop.Joined
import Derived.LaidHandle
namespace Go.Proofs.YtmdmdbiinngneaaGreatDoor.Q
open Go Go.ChangeShapes Go.WideShapes Go.ChangeAt Go.RowKit Go.ChangeMaps Go.Proofs.YtmdmdbiinngneaaGreatDoorW.PrintWords Go.Proofs.YtmdmdbiinngneaaGreatDoorW.PrintLast Go.Proofs.YtmdmdbiinngneaaGreatDoorW.PrintMore
open Go.ChangeMaps (open_string shut_string)
set_option linter.unusedVariables false
set_option linter.unusedSimpArgs false
theorem own : ownKnob Tryz.prog.godebug = none := by kernel_rfl
theorem gTab : Tryz.prog.globalNamed "internal/strconv.uint64pow10" = some 3 := by kernel_rfl
theorem gTabType : (Tryz.prog.globals[3]?).map (·.type) = some 143 := by kernel_rfl
theorem gErr : Tryz.prog.globalNamed "strconv.ErrRange" = some 2 := by kernel_rfl
theorem gErrType : (Tryz.prog.globals[2]?).map (·.type) = some 59 := by kernel_rfl
theorem uTab : Tryz.prog.underlying 143 = some (.array 20 120) := by kernel_rfl
theorem uU64 : Tryz.prog.underlying 120 = some (.int .u64) := by kernel_rfl
theorem cU64 : Tryz.prog.cellsOf 120 = 1 := by kernel_rfl
theorem cTab : Tryz.prog.cellsOf 143 = 20 := by kernel_rfl
theorem uErr : ∃ ms, Tryz.prog.underlying 59 = some (.interface ms) := ⟨#[("Error", 66)], by kernel_rfl⟩
/-- The five variables as the rows list them. -/
abbrev laidL : List (String × DataW Unit) := [("math/bits.deBruijn32tab", Rows.laid_math_bits_deBruijn32tab), ("math/bits.deBruijn64tab", Rows.laid_math_bits_deBruijn64tab), ("internal/strconv.uint64pow10", Rows.laid_internal_strconv_uint64pow10), ("strconv.ErrRange", Rows.laid_strconv_ErrRange), ("strconv.ErrSyntax", Rows.laid_strconv_ErrSyntax)]
theorem pow10_data : Rows.laid_internal_strconv_uint64pow10 (H := Unit) = Lib.tabData .u64 Lib.pow10Tab := by rfl
/-- What the rows' condition gives the walks. -/
theorem gw_of_laid {W : World} (h : laidMetH Tryz.prog laidL W) : GW W := by
  rw [MakeChecks.laidMetH_plain _ _ _ (by kernel_rfl)] at h
  have h2 := h.tail.tail
  rw [show Rows.laid_internal_strconv_uint64pow10 (H := Unit) = Lib.tabData .u64 Lib.pow10Tab from pow10_data] at h2
  have hT := Lib.tabIs_of_head gTab gTabType uTab uU64 cU64 cTab h2
  have h3 := h2.tail
  have hc0 := hT.cell gTab 0 (by decide)
  refine ⟨World.block_lt_of_cell? W _ hc0, hT, ?_⟩
  obtain ⟨ps, ⟨g, t, cs, fuel, p, q, hg, ht, hv, hd, _⟩, _⟩ := h3
  obtain rfl := Option.some.inj (gErr.symm.trans hg)
  obtain rfl := Option.some.inj (gErrType.symm.trans ht)
  obtain ⟨l0⟩ := cs
  obtain ⟨ms, hi⟩ := uErr
  obtain ⟨f1, u, v, hcs, _⟩ := iface_of_trod hi hd
  have hcs' : l0 = [.iface u v] := hcs
  subst hcs'
  exact ⟨u, v, by simpa using World.var?_cell gErr hv 0⟩
/-- The door's own heap meets the condition: three closed facts. -/
theorem door_met (os : Os) (args : Array Value) : laidMetH Tryz.prog laidL ((World.doorLaid Tryz.prog 400 os).forCall (fun _ _ => 0) ⟨#[], args, []⟩).memory :=
  laidMetH_of_parts3 (fuel := 8) (laidMet_of_run' 8 (by kernel_rfl) (by kernel_rfl)) (by kernel_rfl) (by kernel_rfl)
end Go.Proofs.YtmdmdbiinngneaaGreatDoor.Q
