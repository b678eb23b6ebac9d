/- What shown must know, reckoned. -/
import Derived.Test.YtofikmdfiimbbaaDoorPd
set_option linter.unusedVariables false
set_option linter.unusedSimpArgs false
namespace Ln
set_option maxRecDepth 100000
theorem known1 : split [97, 58, 10, 32, 32, 35, 32, 98, 10, 10, 32, 32, 45, 32, 99, 32, 32] = ([⟨1, 0, [97, 58]⟩, ⟨4, 2, [45, 32, 99]⟩], 0, 0) := by
  unfold split
  rw [if_neg (by decide), if_neg (by rw [right_ascii _ (by decide)]; decide)]
  decide
theorem known2 : split [97, 10, 9, 98] = ([], 2, 80) := by
  unfold split
  rw [if_neg (by decide), if_neg (by rw [right_ascii _ (by decide)]; decide)]
  decide
theorem known3 : split [45, 45, 45, 32, 97] = ([], 1, 81) := by
  unfold split
  rw [if_neg (by decide), if_neg (by rw [right_ascii _ (by decide)]; decide)]
  decide
theorem known4 : join [⟨2, 1, [120]⟩] = ([10, 32, 120, 10], 0) := by
  have hr : right [120] = true := right_ascii _ (by decide)
  have hm : mays 0 [⟨2, 1, [120]⟩] = true := by
    unfold mays may six
    simp only [hr]
    decide
  unfold join
  rw [if_neg (by rw [hm]; decide)]
  decide
theorem known5 : join [⟨1, 0, [35]⟩] = ([], 2) := by
  have hr : right [35] = true := right_ascii _ (by decide)
  have hm : mays 0 [⟨1, 0, [35]⟩] = false := by
    unfold mays may six
    simp only [hr]
    decide
  unfold join
  rw [if_pos hm]
end Ln
