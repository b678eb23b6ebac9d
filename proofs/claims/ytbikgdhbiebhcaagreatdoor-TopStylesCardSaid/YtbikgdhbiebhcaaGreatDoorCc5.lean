/- What the program's head says of its main. -/
import Derived.Test.YtbikgdhbiebhcaaGreatDoorCc3
set_option linter.unusedVariables false
set_option linter.unusedSimpArgs false
namespace Go.Proofs.YtbikgdhbiebhcaaGreatDoor
open Go.RowKit
theorem main_of {P : Program} {rest : List (List Char)} (h : wordsSigns P.initOrder.toList = head1 :: head2 :: rest) : P.mainIs = some (true, "3a822456983a4f98117ffc4806fe798a312fe6ddaddb48fe05b73957ac175703".toList) := by
  unfold Program.mainIs
  rw [h]
  have e1 : (head1 == "harness".toList) = true := by kernel_rfl
  have e2 : isSumSigns head2 = true := by kernel_rfl
  have e3 : head2 = "3a822456983a4f98117ffc4806fe798a312fe6ddaddb48fe05b73957ac175703".toList := by kernel_rfl
  show (if (!isSumSigns head2) = true then none else if (head1 == "harness".toList) = true then some (true, head2) else if (head1 == "ownmain".toList) = true then some (false, head2) else none) = _
  rw [e2, e1, if_neg (by decide), if_pos rfl, e3]
theorem main_is : Tryz.prog.mainIs = some (true, "3a822456983a4f98117ffc4806fe798a312fe6ddaddb48fe05b73957ac175703".toList) := by
  refine main_of (rest := head3 :: wordsSigns head4) ?_
  rw [head_eq, String.toList_ofList, words_front _ _ (by decide), words_front _ _ (by decide), words_front _ _ (by decide)]
end Go.Proofs.YtbikgdhbiebhcaaGreatDoor
