/- What Join answers, in plain Lean. -/
import Derived.Test.YtofikmdfiimbbaaDoorPc
set_option linter.unusedVariables false
set_option linter.unusedSimpArgs false
namespace Ln
def six (last : Int) (x : Line) : List Bool := [decide (last < x.no), decide (x.no ≤ 8000), decide (0 ≤ x.ind), decide (x.ind ≤ 8000), decide (x.s ≠ []), right x.s]
def may (last : Int) (x : Line) : Bool :=
  (six last x).all id && ((decide (trouble x.s = 0) || (decide (trouble x.s = 81) && decide (0 < x.ind))) && (decide (Go.Lib.trimB x.s 32 = x.s) && decide (x.s.head? ≠ some 35)))
def mays : Int → List Line → Bool
  | _, [] => true
  | last, x :: xs => may last x && mays x.no xs
def size : Int → List Line → Int
  | _, [] => 0
  | last, x :: xs => (x.no - last + x.ind + (x.s.length : Int)) + size x.no xs
def text : Int → List Line → B
  | _, [] => []
  | last, x :: xs => (List.replicate (x.no - last - 1).toNat 10 ++ List.replicate x.ind.toNat 32 ++ x.s ++ [10]) ++ text x.no xs
def join (l : List Line) : B × Int := if mays 0 l = false then ([], 2) else if 8000 < size 0 l then ([], 20) else (text 0 l, 0)
theorem may_six {last : Int} {x : Line} (h : may last x = true) : last < x.no ∧ x.no ≤ 8000 ∧ 0 ≤ x.ind ∧ x.ind ≤ 8000 ∧ x.s ≠ [] ∧ right x.s = true := by
  unfold may at h
  have h1 := (Bool.and_eq_true_iff.1 h).1
  simpa [six] using h1
theorem size_pos : ∀ (last : Int) (l : List Line), mays last l = true → 0 ≤ size last l
  | _, [], _ => Int.le_refl _
  | last, x :: xs, h => by
    obtain ⟨h1, h2⟩ := Bool.and_eq_true_iff.1 h
    obtain ⟨a, b, c, d, _⟩ := may_six h1
    have := size_pos x.no xs h2
    unfold size
    omega
theorem text_length : ∀ (last : Int) (l : List Line), mays last l = true → ((text last l).length : Int) = size last l
  | _, [], _ => rfl
  | last, x :: xs, h => by
    obtain ⟨h1, h2⟩ := Bool.and_eq_true_iff.1 h
    obtain ⟨a, b, c, d, _⟩ := may_six h1
    have := text_length x.no xs h2
    unfold size text
    simp only [List.length_append, List.length_replicate, List.length_cons, List.length_nil]
    omega
end Ln
