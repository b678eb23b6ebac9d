/- What the row of RoundsTells lays besides: the constants of the document's answer. -/
import Derived.Test.YtfafidholldjlaaDoorC2
import Derived.Test.YtfafidholldjlaaDoorB9
set_option linter.unusedVariables false
set_option linter.unusedSimpArgs false
namespace Go.Proofs.YtfafidholldjlaaDoor
open Go.ChangeShapes Go.WideShapes Go.ChangeAt Go.RowKit
theorem g1 : Tryd.prog.globalNamed "sigillary/sigillaryref01.k" = some 1 := by kernel_rfl
theorem g1t : (Tryd.prog.globals[1]?).map (·.type) = some 86 := by kernel_rfl
theorem cells86 : Tryd.prog.cellsOf 86 = 64 := by kernel_rfl
theorem tabk_eq : (Rows.laid_sigillary_sigillaryref01_k : DataW Unit) = Lib.tabData .i64 (Sha.K.map Int.ofNat) := by kernel_rfl
theorem refk_of {W : World} {r : List (String × DataW Unit)} (h : laidMet Tryd.prog (("sigillary/sigillaryref01.k", Rows.laid_sigillary_sigillaryref01_k) :: r) W) : RefK W := by
  rw [tabk_eq] at h
  have hT := Lib.tabIs_of_head g1 g1t Tryd.underlying86 Tryd.underlying3 cells3 cells86 h
  intro i hi
  have hk : i < Sha.K.length := hi
  have hc := hT.cell g1 i (by rw [List.length_map]; exact hk)
  rw [hc, List.getD_eq_getElem?_getD, List.getElem?_map, List.getElem?_eq_getElem hk, List.getD_eq_getElem?_getD, List.getElem?_eq_getElem hk]
  rfl
end Go.Proofs.YtfafidholldjlaaDoor
