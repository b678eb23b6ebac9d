/- Plain rows sign by sign; marks by their three signs; a row's line. In plain Lean. -/
import Derived.Test.YtofikmdfiimbbaaDoorPb
import Derived.Lib.Strings
set_option linter.unusedVariables false
set_option linter.unusedSimpArgs false
namespace Ln
theorem dec_high (l : B) (h : 128 ≤ nat l 0) : 128 ≤ (dec l).1 ∧ ∀ j, j < (dec l).2 → 128 ≤ nat l j := by
  unfold dec Go.Lib.decodeN
  rw [if_neg (by omega)]
  split
  · split
    · refine ⟨by simp only; omega, fun j hj => ?_⟩
      simp only at hj
      obtain rfl | rfl : j = 0 ∨ j = 1 := by omega
      · exact h
      · omega
    · refine ⟨by simp only; omega, fun j hj => ?_⟩
      simp only at hj
      obtain rfl : j = 0 := by omega
      exact h
  · split
    · split
      · refine ⟨by simp only; omega, fun j hj => ?_⟩
        simp only at hj
        obtain rfl | rfl | rfl : j = 0 ∨ j = 1 ∨ j = 2 := by omega
        · exact h
        · omega
        · omega
      · refine ⟨by simp only; omega, fun j hj => ?_⟩
        simp only at hj
        obtain rfl : j = 0 := by omega
        exact h
    · split
      · split
        · refine ⟨by simp only; omega, fun j hj => ?_⟩
          simp only at hj
          obtain rfl | rfl | rfl | rfl : j = 0 ∨ j = 1 ∨ j = 2 ∨ j = 3 := by omega
          · exact h
          · omega
          · omega
          · omega
        · refine ⟨by simp only; omega, fun j hj => ?_⟩
          simp only at hj
          obtain rfl : j = 0 := by omega
          exact h
      · refine ⟨by simp only; omega, fun j hj => ?_⟩
        simp only at hj
        obtain rfl : j = 0 := by omega
        exact h
theorem plain_nil : plainB [] = true := rfl
theorem plain_take (l : B) (k : Nat) (h : ∀ j, j < k → 128 ≤ nat l j) : plainB l = plainB (l.drop k) := by
  have e : plainB (l.take k ++ l.drop k) = (plainB (l.take k) && plainB (l.drop k)) := by unfold plainB; rw [List.all_append]
  rw [List.take_append_drop] at e
  have e2 : plainB (l.take k) = true := by
    unfold plainB
    rw [List.all_eq_true]
    intro b hb
    obtain ⟨j, hj, rfl⟩ := List.mem_iff_getElem.1 hb
    simp only [List.length_take] at hj
    have h1 := h j (by omega)
    have e3 : (l.take k)[j]'(by simp only [List.length_take]; exact hj) = l[j]'(by omega) := List.getElem_take
    have e4 : nat l j = (l[j]'(by omega)).toNat := by
      unfold nat
      rw [List.getD_eq_getElem?_getD, List.getElem?_eq_getElem (by omega)]
      rfl
    rw [e3]
    simp only [Bool.and_eq_true, decide_eq_true_eq]
    omega
  rw [e, e2, Bool.true_and]
theorem plain_bad (l : B) (hl : l ≠ []) (h : (dec l).1 < 32 ∨ (dec l).1 = 127) : plainB l = false := by
  cases l with
  | nil => exact absurd rfl hl
  | cons c t =>
    by_cases hc : 128 ≤ c.toNat
    · have := (dec_high (c :: t) hc).1
      omega
    · rw [dec_ascii c t (by omega)] at h
      unfold plainB
      rw [List.all_cons]
      simp only at h
      rcases h with h | h
      · simp only [show ¬ 32 ≤ c.toNat by omega, decide_false, Bool.false_and]
      · simp only [show ¬ c.toNat ≠ 127 by omega, decide_false, Bool.false_and, Bool.and_false]
theorem plain_step (l : B) (hl : l ≠ []) (h : ¬ ((dec l).1 < 32 ∨ (dec l).1 = 127)) : plainB l = plainB (l.drop (dec l).2) := by
  cases l with
  | nil => exact absurd rfl hl
  | cons c t =>
    by_cases hc : 128 ≤ c.toNat
    · exact plain_take _ _ (dec_high (c :: t) hc).2
    · rw [dec_ascii c t (by omega)] at h ⊢
      unfold plainB
      rw [List.all_cons]
      simp only at h
      simp only [show 32 ≤ c.toNat by omega, show c.toNat ≠ 127 by omega, decide_true, Bool.true_and, List.drop_succ_cons, List.drop_zero, ne_eq, not_false_iff]
/-- A row that begins as a mark. -/
def oneB (m r : B) : Bool := Go.Lib.hasPrefix r m && (decide (Go.Lib.trimPrefix r m = []) || decide ((Go.Lib.trimPrefix r m).head? = some 32))
theorem one_len (a b c : UInt8) (r : B) : oneB [a, b, c] r = ([a, b, c].isPrefixOf r && (decide (r.length = 3) || decide (r[3]? = some 32))) := by
  unfold oneB Go.Lib.trimPrefix Go.Lib.hasPrefix
  cases hp : [a, b, c].isPrefixOf r with
  | false => simp
  | true =>
    rw [if_pos rfl]
    match r, hp with
    | [], h => simp [List.isPrefixOf] at h
    | [_], h => simp [List.isPrefixOf] at h
    | [_, _], h => simp [List.isPrefixOf] at h
    | x :: y :: z :: u, h => cases u <;> simp
theorem mark_one (r : B) : markB r = (oneB [45, 45, 45] r || oneB [46, 46, 46] r) := by
  rw [one_len, one_len, markB, Bool.and_or_distrib_right]
theorem rows_row_size : ∀ (l r : B), r ∈ rows l → r.length ≤ l.length
  | [], r, h => by simp [rows] at h
  | b :: t, r, h => by
    by_cases hb : b = 10
    · subst hb
      rw [rows_nl] at h
      rcases List.mem_cons.1 h with rfl | h
      · simp
      · have := rows_row_size t r h
        simp only [List.length_cons]
        omega
    · cases hr : rows t with
      | nil =>
        cases t with
        | nil =>
          simp only [rows, if_neg hb, List.mem_singleton] at h
          subst h
          simp
        | cons c u => exact absurd hr (rows_ne _ (by simp))
      | cons q rs =>
        rw [rows_b b hb t q rs hr] at h
        rcases List.mem_cons.1 h with rfl | h
        · have := rows_row_size t q (by rw [hr]; simp)
          simp only [List.length_cons]
          omega
        · have := rows_row_size t r (by rw [hr]; simp [h])
          simp only [List.length_cons]
          omega
theorem rows_size : ∀ (l : B), (rows l).length ≤ l.length
  | [] => Nat.le_refl _
  | b :: t => by
    by_cases hb : b = 10
    · subst hb
      rw [rows_nl]
      simp only [List.length_cons]
      have := rows_size t
      omega
    · cases hr : rows t with
      | nil =>
        cases t with
        | nil => simp [rows, hb]
        | cons c u => exact absurd hr (rows_ne _ (by simp))
      | cons r rs =>
        rw [rows_b b hb t r rs hr]
        have := rows_size t
        rw [hr] at this
        simp only [List.length_cons] at this ⊢
        omega
end Ln
