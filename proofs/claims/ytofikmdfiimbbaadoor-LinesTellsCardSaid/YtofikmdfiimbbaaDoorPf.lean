/- The parts of a row; lines rise. In plain Lean. -/
import Derived.Test.YtofikmdfiimbbaaDoorPd
set_option linter.unusedVariables false
set_option linter.unusedSimpArgs false
namespace Ln
theorem lead_parts : ∀ (l : B), ∃ i, l = List.replicate i 32 ++ lead l ∧ i + (lead l).length = l.length ∧ (lead l).head? ≠ some 32
  | [] => ⟨0, rfl, rfl, by simp [lead]⟩
  | x :: t => by
    obtain ⟨i, h1, h2, h3⟩ := lead_parts t
    by_cases hx : x = 32
    · subst hx
      have e : lead (32 :: t) = lead t := by simp [lead]
      refine ⟨i + 1, ?_, ?_, by rw [e]; exact h3⟩
      · rw [e, List.replicate_succ, List.cons_append, ← h1]
      · rw [e]; simp only [List.length_cons]; omega
    · have e : lead (x :: t) = x :: t := by simp [lead, hx]
      refine ⟨0, by rw [e]; rfl, by rw [e]; simp, by rw [e]; simpa using hx⟩
theorem tail_parts (l : B) : ∃ j, l = tail l ++ List.replicate j 32 ∧ (tail l).getLast? ≠ some 32 := by
  obtain ⟨j, h1, h2, h3⟩ := lead_parts l.reverse
  have e : tail l = (lead l.reverse).reverse := rfl
  refine ⟨j, ?_, ?_⟩
  · have := congrArg List.reverse h1
    rw [List.reverse_reverse, List.reverse_append, List.reverse_replicate] at this
    rw [e]
    exact this
  · rw [e, List.getLast?_reverse]
    exact h3
theorem tail_head (l : B) (h0 : l ≠ []) (h : l.head? ≠ some 32) : tail l ≠ [] ∧ (tail l).head? = l.head? := by
  obtain ⟨j, h1, h2⟩ := tail_parts l
  cases ht : tail l with
  | nil =>
    rw [ht, List.nil_append] at h1
    cases j with
    | zero => rw [h1] at h0; exact absurd rfl h0
    | succ j => rw [h1] at h; exact absurd rfl h
  | cons x t =>
    rw [ht] at h1
    refine ⟨by simp, ?_⟩
    rw [h1]
    rfl
/-- What a row's line is like. -/
theorem says_parts (r : B) (h : says r = true) : ∃ i j, r = List.replicate i 32 ++ (tail (lead r) ++ List.replicate j 32) ∧ i + (lead r).length = r.length ∧ tail (lead r) ≠ [] ∧ (tail (lead r)).head? ≠ some 32 ∧ (tail (lead r)).head? ≠ some 35 ∧ (tail (lead r)).getLast? ≠ some 32 := by
  unfold says at h
  obtain ⟨h1, h2⟩ := Bool.and_eq_true_iff.1 h
  have h1 := of_decide_eq_true h1
  have h2 := of_decide_eq_true h2
  obtain ⟨i, a1, a2, a3⟩ := lead_parts r
  obtain ⟨j, b1, b2⟩ := tail_parts (lead r)
  obtain ⟨c1, c2⟩ := tail_head (lead r) h1 a3
  refine ⟨i, j, ?_, a2, c1, by rw [c2]; exact a3, by rw [c2]; exact h2, b2⟩
  rw [← b1, ← a1]
def lineOk (x : Line) : Prop := 0 ≤ x.ind ∧ x.s ≠ [] ∧ x.s.head? ≠ some 32 ∧ x.s.head? ≠ some 35 ∧ x.s.getLast? ≠ some 32
def rise : Int → List Line → Prop
  | _, [] => True
  | last, x :: xs => last < x.no ∧ lineOk x ∧ rise x.no xs
theorem lineOf_ok (n : Int) (r : B) (h : says r = true) : lineOk (lineOf n r) := by
  obtain ⟨i, j, h1, h2, h3, h4, h5, h6⟩ := says_parts r h
  refine ⟨?_, h3, h4, h5, h6⟩
  unfold lineOf
  simp only
  omega
theorem lns_rise : ∀ (rs : List B) (n last : Int), last < n → rise last (lns n rs)
  | [], _, _, _ => trivial
  | r :: rs, n, last, h => by
    unfold lns lineL
    split
    · rename_i hs
      exact ⟨h, lineOf_ok n r hs, lns_rise rs (n + 1) n (by omega)⟩
    · exact lns_rise rs (n + 1) last (by omega)
theorem lns_mem : ∀ (rs : List B) (n : Int) (x : Line), x ∈ lns n rs → ∃ r ∈ rs, ∃ k, says r = true ∧ x = lineOf k r ∧ n ≤ k ∧ k < n + rs.length
  | [], n, x, h => by simp [lns] at h
  | r :: rs, n, x, h => by
    unfold lns lineL at h
    rcases List.mem_append.1 h with h | h
    · split at h
      · rename_i hs
        exact ⟨r, by simp, n, hs, List.mem_singleton.1 h, Int.le_refl _, by simp only [List.length_cons]; omega⟩
      · simp at h
    · obtain ⟨r', h1, k, h2, h3, h4, h5⟩ := lns_mem rs (n + 1) x h
      exact ⟨r', by simp [h1], k, h2, h3, by omega, by simp only [List.length_cons]; omega⟩
theorem lineOf_len (r : B) (h : says r = true) (k : Int) : (lineOf k r).s.length + ((lineOf k r).ind).toNat ≤ r.length := by
  obtain ⟨i, j, h1, h2, _⟩ := says_parts r h
  have e := congrArg List.length h1
  simp only [List.length_append, List.length_replicate] at e
  unfold lineOf
  simp only
  omega
theorem split_mem (s : B) (x : Line) (h : x ∈ (split s).1) : right s = true ∧ s.length ≤ 8000 ∧ (∀ r ∈ rows s, trouble r = 0) ∧ ∃ r ∈ rows s, ∃ k, says r = true ∧ x = lineOf k r ∧ 1 ≤ k ∧ k < 1 + (rows s).length := by
  by_cases hz : (split s).2.2 = 0
  · obtain ⟨a, b, c⟩ := (split_zero s).1 hz
    rw [split_ok s hz] at h
    obtain ⟨r, h1, k, h2, h3, h4, h5⟩ := lns_mem _ _ _ h
    exact ⟨b, a, c, r, h1, k, h2, h3, h4, by omega⟩
  · rw [split_none s hz] at h
    simp at h
theorem split_len (s : B) (x : Line) (h : x ∈ (split s).1) : x.s.length ≤ 8000 := by
  obtain ⟨_, h8, _, r, hr, k, hs, rfl, _⟩ := split_mem s x h
  have := lineOf_len r hs k
  have := rows_row_size s r hr
  omega
theorem split_rise (s : B) : rise 0 (split s).1 := by
  unfold split
  split
  · trivial
  · split
    · trivial
    · split
      · exact lns_rise _ _ _ (by omega)
      · trivial
end Ln
