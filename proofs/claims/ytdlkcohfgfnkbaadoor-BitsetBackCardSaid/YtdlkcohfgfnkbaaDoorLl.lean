/- BitsetTells, BitsetBack: what the rows' listed table gives. -/
import Derived.Test.YtdlkcohfgfnkbaaDoorRows
import Derived.Test.YtdlkcohfgfnkbaaDoorTz
import Derived.Lib.LaidTab
import Derived.LaidMore
import Derived.Stop.Joined
namespace Go.Proofs.YtdlkcohfgfnkbaaDoor.Ll
open Go.RowKit Go.Proofs.YtdlkcohfgfnkbaaDoor.Tz
theorem gT : Tryd.prog.globalNamed "math/bits.deBruijn64tab" = some 0 := by kernel_rfl
theorem gTType : (Tryd.prog.globals[0]?).map (·.type) = some 49 := by kernel_rfl
theorem cells5 : Tryd.prog.cellsOf 5 = 1 := by kernel_rfl
theorem cells49 : Tryd.prog.cellsOf 49 = 64 := by kernel_rfl
def zs : List Int := Lib.deBruijn64tab.map (fun n : Nat => (n : Int))
theorem laid_is {H : Type} : (Rows.laid_math_bits_deBruijn64tab : DataW H) = Lib.tabData .u8 zs := by kernel_rfl
theorem of_laid {W : World} (h : laidMetH Tryd.prog Rows.bitsetTellsRow.laid W) : Tab W := by
  rw [MakeChecks.laidMetH_plain _ _ _ (by kernel_rfl)] at h
  have h2 : laidMet Tryd.prog [("math/bits.deBruijn64tab", Lib.tabData .u8 zs)] W := by
    rw [← laid_is]
    exact h
  have hT := Lib.tabIs_of_head gT gTType Tryd.underlying49 Tryd.underlying5 cells5 cells49 h2
  intro j hj
  have := hT.cell gT j (by show j < (Lib.deBruijn64tab.map (fun n : Nat => (n : Int))).length; rw [List.length_map]; exact hj)
  rw [this]
  congr 2
  show (Lib.deBruijn64tab.map (fun n : Nat => (n : Int))).getD j 0 = _
  rw [List.getD_eq_getElem?_getD, List.getElem?_map, List.getD_eq_getElem?_getD]
  cases Lib.deBruijn64tab[j]? <;> rfl
theorem door_met (os : Os) (args : Array Value) : laidMetH Tryd.prog Rows.bitsetTellsRow.laid ((World.doorLaid Tryd.prog 14 os).forCall (fun _ _ => 0) ⟨#[], args, []⟩).memory :=
  laidMetH_of_parts3 (fuel := 8) (laidMet_of_run' 8 (by kernel_rfl) (by kernel_rfl)) (by kernel_rfl) (by kernel_rfl)
end Go.Proofs.YtdlkcohfgfnkbaaDoor.Ll
