/- What the rows lay. -/
import Derived.Test.YtofikmdfiimbbaaDoorGb
import Derived.Test.YtofikmdfiimbbaaDoorCards
import Derived.Test.YtofikmdfiimbbaaDoorTie
import Derived.WalkKit
import Derived.ProofKit
import Derived.OpenShut
import Derived.Deep.DeepHandedRow
import Derived.Deep.DeepWitnessRowRef
import Derived.Lib.LaidU8
import Derived.Shelf.Vars
set_option linter.unusedVariables false
set_option linter.unusedSimpArgs false
namespace Go.Proofs.YtofikmdfiimbbaaDoor
open Go.ChangeShapes Go.WideShapes Go.ChangeAt Go.RowKit
set_option maxRecDepth 20000
theorem own : ownKnob Tryd.prog.godebug = none := by kernel_rfl
theorem u8extra : U8Extra Tryd.prog Tryd.lays260_ren := {
  n3 := by kernel_rfl
  n4 := by kernel_rfl
  y3 := by kernel_rfl
  y4 := by kernel_rfl
  c5 := by kernel_rfl
  c119 := by kernel_rfl
  c138 := by kernel_rfl }
theorem first_eq : (Rows.laid_unicode_utf8_first : DataW Unit) = Lib.firstData := by kernel_rfl
theorem accept_eq : (Rows.laid_unicode_utf8_acceptRanges : DataW Unit) = Lib.acceptData := by kernel_rfl
theorem glob_of {W : World} (hs : W.ShapedOpen Tryd.prog) (h : laidMetH Tryd.prog [("unicode/utf8.acceptRanges", Rows.laid_unicode_utf8_acceptRanges), ("unicode/utf8.first", Rows.laid_unicode_utf8_first)] W) : Glob W := by
  have h' : laidMet Tryd.prog [("unicode/utf8.acceptRanges", Rows.laid_unicode_utf8_acceptRanges), ("unicode/utf8.first", Rows.laid_unicode_utf8_first)] W := by
    unfold laidMetH at h
    have e : ([("unicode/utf8.acceptRanges", Rows.laid_unicode_utf8_acceptRanges), ("unicode/utf8.first", Rows.laid_unicode_utf8_first)] : List (String × DataW Unit)).filter (fun x => x.2.handleName?.isSome) = [] := by rfl
    rw [e] at h
    exact h
  rw [first_eq, accept_eq] at h'
  have r3 := Lib.laidMet.reads h' (n := "unicode/utf8.first") (d := Lib.firstData) (by simp)
  have r4 := Lib.laidMet.reads h' (n := "unicode/utf8.acceptRanges") (d := Lib.acceptData) (by simp)
  have hT := utf8Tabs_of_reads Tryd.lays260 u8extra r3 r4
  obtain ⟨m, hm0⟩ := Tryd.laysM145.s1_3 W hs
  have hm : W.cell? ⟨2, 0, none⟩ = some (.int .i64 m) := hm0
  refine ⟨?_, hT, m, hm⟩
  have : 2 < W.heap.size := by
    by_cases h : 2 < W.heap.size
    · exact h
    · have hn : W.heap[2]? = none := Array.getElem?_eq_none (by omega)
      simp [World.cell?, hn] at hm
  omega
end Go.Proofs.YtofikmdfiimbbaaDoor
