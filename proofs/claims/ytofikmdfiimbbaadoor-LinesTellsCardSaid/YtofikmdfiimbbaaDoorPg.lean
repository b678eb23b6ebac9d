/- The first rows of a text; two texts' rows. In plain Lean. -/
import Derived.Test.YtofikmdfiimbbaaDoorPf
set_option linter.unusedVariables false
set_option linter.unusedSimpArgs false
namespace Ln
theorem rows_count : ∀ (q : B), (rows (q ++ [10])).length = (q ++ [10]).count 10
  | [] => rfl
  | b :: q => by
    have ih := rows_count q
    by_cases hb : b = 10
    · subst hb
      rw [List.cons_append, rows_nl, List.length_cons, ih, List.count_cons_self]
    · cases hr : rows (q ++ [10]) with
      | nil => exact absurd hr (rows_ne _ (by simp))
      | cons r rs =>
        rw [hr] at ih
        rw [List.cons_append, rows_b b hb _ r rs hr, List.count_cons_of_ne (by simpa using hb), ← ih]
        rfl
theorem split_of (s : B) (h1 : s.length ≤ 8000) (h2 : right s = true) (h3 : ∀ r ∈ rows s, trouble r = 0) : split s = (lns 1 (rows s), 0, 0) := split_ok s ((split_zero s).2 ⟨h1, h2, h3⟩)
theorem split_first (p rest : B) (n : Nat) (hs : (split (p ++ rest)).2.2 = 0) (h : rest = [] ∨ (p = [] ∧ n = 0) ∨ ∃ q, p = q ++ [10] ∧ p.count 10 = n) :
    ∃ m m', split p = (m, 0, 0) ∧ (split (p ++ rest)).1 = m ++ m' ∧ ∀ x ∈ m', (n : Int) < x.no := by
  obtain ⟨a, b, c⟩ := (split_zero _).1 hs
  rw [split_ok _ hs]
  rcases h with rfl | ⟨rfl, rfl⟩ | ⟨q, rfl, hq⟩
  · rw [List.append_nil] at a b c ⊢
    exact ⟨_, [], split_of p a b c, (List.append_nil _).symm, fun x hx => by simp at hx⟩
  · refine ⟨[], lns 1 (rows rest), ?_, rfl, fun x hx => ?_⟩
    · exact split_of [] (by simp) right_nil (fun r hr => by simp [rows] at hr)
    · obtain ⟨r, _, k, _, rfl, h1, _⟩ := lns_mem _ _ _ hx
      show ((0 : Nat) : Int) < k
      omega
  · have e : q ++ [10] ++ rest = q ++ 10 :: rest := by simp
    rw [e] at a b c ⊢
    rw [rows_join] at c ⊢
    rw [right_split q 10 rest (by decide)] at b
    obtain ⟨b1, b2⟩ := Bool.and_eq_true_iff.1 b
    refine ⟨lns 1 (rows (q ++ [10])), lns (1 + (rows (q ++ [10])).length) (rows rest), ?_, lns_append _ _ _, fun x hx => ?_⟩
    · refine split_of _ ?_ ?_ fun r hr => c r (by simp [hr])
      · simp only [List.length_append, List.length_cons, List.length_nil] at a ⊢
        omega
      · rw [right_split q 10 [] (by decide), b1, right_nil]
        rfl
    · obtain ⟨r, _, k, _, rfl, h1, _⟩ := lns_mem _ _ _ hx
      rw [rows_count, hq] at h1
      show (n : Int) < k
      omega
/-- Lines of a text that ends a row, and of one behind it. -/
def later (k : Int) (x : Line) : Line := ⟨x.no + k, x.ind, x.s⟩
theorem lns_later : ∀ (rs : List B) (n k : Int), lns (n + k) rs = (lns n rs).map (later k)
  | [], _, _ => rfl
  | r :: rs, n, k => by
    have ih := lns_later rs (n + 1) k
    rw [show n + 1 + k = n + k + 1 by omega] at ih
    unfold lns
    rw [List.map_append, ih]
    congr 1
    unfold lineL
    split
    · rfl
    · rfl
theorem split_joins (q t : B) (h1 : (q ++ [10]).length + t.length ≤ 8000) :
    ((split (q ++ [10])).2.2 = 0 → (split t).2.2 = 0 → split (q ++ [10] ++ t) = ((split (q ++ [10])).1 ++ (split t).1.map (later ((q ++ [10]).count 10 : Nat)), 0, 0)) ∧
    (((split (q ++ [10])).2.2 ≠ 0 ∨ (split t).2.2 ≠ 0) → (split (q ++ [10] ++ t)).2.2 ≠ 0) := by
  have e : q ++ [10] ++ t = q ++ 10 :: t := by simp
  have hr : right (q ++ 10 :: t) = (right (q ++ [10]) && right t) := by
    rw [right_split q 10 t (by decide), right_split q 10 [] (by decide), right_nil, Bool.and_true]
  have hl : (q ++ 10 :: t).length = (q ++ [10]).length + t.length := by rw [← e, List.length_append]
  refine ⟨fun ha hb => ?_, fun h => ?_⟩
  · obtain ⟨a1, a2, a3⟩ := (split_zero _).1 ha
    obtain ⟨b1, b2, b3⟩ := (split_zero _).1 hb
    rw [split_ok _ ha, split_ok _ hb, e, split_of (q ++ 10 :: t) (by omega) (by rw [hr, a2, b2]; rfl) (by
      rw [rows_join]
      intro r hr
      rcases List.mem_append.1 hr with h | h
      · exact a3 r h
      · exact b3 r h)]
    rw [rows_join, lns_append, rows_count, lns_later]
  · intro hc
    rw [e] at hc
    obtain ⟨c1, c2, c3⟩ := (split_zero _).1 hc
    rw [hr] at c2
    obtain ⟨c4, c5⟩ := Bool.and_eq_true_iff.1 c2
    rw [rows_join] at c3
    rcases h with h | h
    · exact h ((split_zero _).2 ⟨by omega, c4, fun r hr => c3 r (by simp [hr])⟩)
    · exact h ((split_zero _).2 ⟨by omega, c5, fun r hr => c3 r (by simp [hr])⟩)
end Ln
