/- What each row needs of the listed variables: the condition gives the table strings.asciiSpace; a world that meets the condition. -/
import Derived.Test.YtdhdpidjdadamaaDoorRows
import Derived.Test.YtdhdpidjdadamaaDoorHG
import Derived.Handed
import Derived.LaidLaws
import Derived.LaidSub
import Derived.LaidHandle
import Derived.Lay
import Derived.Stop.Joined
import Derived.Stop.LaidErr
import Derived.JoinedOf
namespace Go.Proofs.YtdhdpidjdadamaaDoor
open Go.RowKit
theorem Tryd.own : ownKnob Tryd.prog.godebug = none := by kernel_rfl
theorem Tryd.laidOut : laidOutB Tryd.prog = true := by kernel_rfl
theorem Tryd.gT : Tryd.prog.globalNamed "strings.asciiSpace" = some 0 := by kernel_rfl
theorem Tryd.gTType : (Tryd.prog.globals[0]?).map (·.type) = some 65 := by kernel_rfl
theorem Tryd.cells5 : Tryd.prog.cellsOf 5 = 1 := by kernel_rfl
theorem Tryd.cells65 : Tryd.prog.cellsOf 65 = 256 := by kernel_rfl
/-- What the rows list. -/
abbrev laidList : List (String × DataW Unit) := [("unicode.White_Space", Rows.laid_unicode_White_Space), ("strings.asciiSpace", Rows.laid_strings_asciiSpace)]
theorem tab_datum : (Rows.laid_strings_asciiSpace : DataW Unit) = Lib.tabData .u8 Lib.asciiSpaceTab := by kernel_rfl
/-- The condition gives the table. -/
theorem gw_of_laid {W : World} (h : laidMetH Tryd.prog laidList W) : GW W := by
 have h1 : laidMet Tryd.prog laidList W := h;have h2 := h1.tail;rw [tab_datum] at h2;exact Lib.tabIs_of_head Tryd.gT Tryd.gTType Tryd.underlying65 Tryd.underlying5 Tryd.cells5 Tryd.cells65 h2
/-- A world that meets the condition. -/
noncomputable def laidWorld (os : Os) : World := World.laidAll Tryd.prog os laidList
set_option maxRecDepth 100000 in
theorem laidWorld_met (os : Os) (args : Array Value) : laidMetH Tryd.prog laidList ((laidWorld os).forCall (fun _ _ => 0) ⟨#[], args, []⟩).memory := by
 have h : laidMet Tryd.prog laidList ((laidWorld os).forCall (fun _ _ => 0) ⟨#[], args, []⟩).memory := laidMet_laidAll _ (by kernel_rfl) (by kernel_rfl)
 exact h
end Go.Proofs.YtdhdpidjdadamaaDoor
