import Derived.Test.YtmdmdbiinngneaaDoorRows
import Derived.Test.YtmdmdbiinngneaaDoorQ6
import Derived.WalkKit
import Derived.ProofKit
import Derived.OpenShut
import Derived.ShutString
import Derived.ChangeOld
import Derived.Below
import Derived.SizedLaws
import Derived.LaidMore
import Derived.Lib.LaidTab
import Derived.Stop.LaidErr
import Derived.Stop.Joined
import Derived.LaidHandle
namespace Go.Proofs.YtmdmdbiinngneaaDoor.Q
open Go Go.ChangeShapes Go.WideShapes Go.ChangeAt Go.RowKit Go.ChangeMaps Go.Proofs.YtmdmdbiinngneaaDoorW.PrintWords Go.Proofs.YtmdmdbiinngneaaDoorW.PrintLast Go.Proofs.YtmdmdbiinngneaaDoorW.PrintMore
open Go.ChangeMaps (open_string shut_string)
set_option linter.unusedVariables false
set_option linter.unusedSimpArgs false
theorem own : ownKnob Tryd.prog.godebug = none := by kernel_rfl
theorem gTab : Tryd.prog.globalNamed "internal/strconv.uint64pow10" = some 3 := by kernel_rfl
theorem gTabType : (Tryd.prog.globals[3]?).map (·.type) = some 129 := by kernel_rfl
theorem gErr : Tryd.prog.globalNamed "strconv.ErrRange" = some 2 := by kernel_rfl
theorem gErrType : (Tryd.prog.globals[2]?).map (·.type) = some 60 := by kernel_rfl
theorem uTab : Tryd.prog.underlying 129 = some (.array 20 103) := by kernel_rfl
theorem uU64 : Tryd.prog.underlying 103 = some (.int .u64) := by kernel_rfl
theorem cU64 : Tryd.prog.cellsOf 103 = 1 := by kernel_rfl
theorem cTab : Tryd.prog.cellsOf 129 = 20 := by kernel_rfl
theorem uErr : ∃ ms, Tryd.prog.underlying 60 = some (.interface ms) := ⟨#[("Error", 64)], by kernel_rfl⟩
/-- The five variables as the rows list them. -/
abbrev laidL : List (String × DataW Unit) := [("math/bits.deBruijn32tab", Rows.laid_math_bits_deBruijn32tab), ("math/bits.deBruijn64tab", Rows.laid_math_bits_deBruijn64tab), ("internal/strconv.uint64pow10", Rows.laid_internal_strconv_uint64pow10), ("strconv.ErrRange", Rows.laid_strconv_ErrRange), ("strconv.ErrSyntax", Rows.laid_strconv_ErrSyntax)]
theorem pow10_data : Rows.laid_internal_strconv_uint64pow10 (H := Unit) = Lib.tabData .u64 Lib.pow10Tab := by rfl
/-- What the rows' condition gives the walks. -/
theorem gw_of_laid {W : World} (h : laidMetH Tryd.prog laidL W) : GW W := by
  rw [MakeChecks.laidMetH_plain _ _ _ (by kernel_rfl)] at h
  have h2 := h.tail.tail
  rw [show Rows.laid_internal_strconv_uint64pow10 (H := Unit) = Lib.tabData .u64 Lib.pow10Tab from pow10_data] at h2
  have hT := Lib.tabIs_of_head gTab gTabType uTab uU64 cU64 cTab h2
  have h3 := h2.tail
  have hc0 := hT.cell gTab 0 (by decide)
  refine ⟨World.block_lt_of_cell? W _ hc0, hT, ?_⟩
  obtain ⟨ps, ⟨g, t, cs, fuel, p, q, hg, ht, hv, hd, _⟩, _⟩ := h3
  obtain rfl := Option.some.inj (gErr.symm.trans hg)
  obtain rfl := Option.some.inj (gErrType.symm.trans ht)
  obtain ⟨l0⟩ := cs
  obtain ⟨ms, hi⟩ := uErr
  obtain ⟨f1, u, v, hcs, _⟩ := iface_of_trod hi hd
  have hcs' : l0 = [.iface u v] := hcs
  subst hcs'
  exact ⟨u, v, by simpa using World.var?_cell gErr hv 0⟩
/-- The door's own heap meets the condition: three closed facts. -/
theorem door_met (os : Os) (args : Array Value) : laidMetH Tryd.prog laidL ((World.doorLaid Tryd.prog 400 os).forCall (fun _ _ => 0) ⟨#[], args, []⟩).memory :=
  laidMetH_of_parts3 (fuel := 8) (laidMet_of_run' 8 (by kernel_rfl) (by kernel_rfl)) (by kernel_rfl) (by kernel_rfl)
end Go.Proofs.YtmdmdbiinngneaaDoor.Q
