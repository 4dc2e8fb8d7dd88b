/- The table of powers of ten, out of what the rows list. -/
import Derived.Test.YtociocengfjioaaGreatDoorRows
import Derived.Test.YtociocengfjioaaGreatDoorOpenI
import Derived.LaidMore
import Derived.Lay
import Derived.Stop.Joined
namespace Go.Proofs.YtociocengfjioaaGreatDoor
open Go.ChangeShapes Go.WideShapes Go.ChangeAt Go.RowKit Go.Joins
set_option linter.unusedVariables false
set_option maxRecDepth 100000 in
theorem tab_of_laid {W : World} (h : laidMetH Tryz.prog Rows.rationalArithmeticRow.laid W) : Tab W := by
  rw [MakeChecks.laidMetH_plain _ _ _ (by kernel_rfl)] at h
  obtain ⟨ps, ⟨_, _, _, _, _, _, _, _, _, _, ⟨_, _, _, _, _, _, _, _, _, _, ⟨g, t, cs, fuel, p, q, hg, ht, hv, hd, _, _⟩, _⟩, _⟩, _, _⟩ := h
  obtain rfl := Option.some.inj ((show Tryz.prog.globalNamed "internal/strconv.uint64pow10" = some 1 by kernel_rfl).symm.trans hg)
  obtain rfl := Option.some.inj ((show (Tryz.prog.globals[1]?).map (·.type) = some 154 by kernel_rfl).symm.trans ht)
  have e : Rows.laid_internal_strconv_uint64pow10 = Lib.tabData (H := Unit) .u64 Lib.pow10Tab := by kernel_rfl
  rw [e] at hd
  show Lib.TabIs _ _ _ _ _
  unfold Lib.TabIs
  rw [hv, ← Lib.cells_of_tab (t := 154) (e := 91) (n := 20) Tryz.underlying154 Tryz.underlying91 (by kernel_rfl) (by kernel_rfl) hd]
end Go.Proofs.YtociocengfjioaaGreatDoor
