/- A row's line by its places, in plain Lean. -/
import Derived.Test.YtofikmdfiimbbaaDoorPj
import Derived.Test.YtofikmdfiimbbaaDoorPi
set_option linter.unusedVariables false
set_option linter.unusedSimpArgs false
namespace Ln
theorem get_nat (l : B) (k : Nat) (h : k < l.length) (n : Nat) (hn : n < 256) (e : nat l k = n) : l[k]? = some (UInt8.ofNat n) := by
  rw [List.getElem?_eq_getElem h]
  congr 1
  apply UInt8.toNat_inj.1
  rw [nat_get, e, UInt8.toNat_ofNat']
  omega
theorem ne_nat (l : B) (k : Nat) (h : k < l.length) (c : UInt8) (e : nat l k ≠ c.toNat) : l[k]? ≠ some c := by
  rw [List.getElem?_eq_getElem h]
  intro h2
  apply e
  rw [← nat_get l k h]
  rw [Option.some.inj h2]
theorem lead_at (r : B) (k : Nat) (hk : k ≤ r.length) (h : ∀ j, j < k → nat r j = 32) (he : k = r.length ∨ nat r k ≠ 32) : lead r = r.drop k := by
  have e1 : r.take k = List.replicate k 32 := by
    apply List.ext_getElem?
    intro j
    by_cases hj : j < k
    · rw [List.getElem?_take, if_pos hj, get_nat r j (by omega) 32 (by omega) (h j hj), List.getElem?_replicate, if_pos hj]
      rfl
    · rw [List.getElem?_eq_none (by rw [List.length_take]; omega), List.getElem?_eq_none (by rw [List.length_replicate]; omega)]
  conv => lhs; rw [← List.take_append_drop k r]
  rw [e1, lead_blanks]
  apply lead_of
  rcases he with he | he
  · rw [List.drop_eq_nil_of_le (by omega)]; simp
  · by_cases hl : k < r.length
    · rw [List.head?_drop]
      exact ne_nat r k hl 32 he
    · rw [List.drop_eq_nil_of_le (by omega)]; simp
theorem tail_at (l : B) (e : Nat) (he : e ≤ l.length) (h : ∀ j, e ≤ j → j < l.length → nat l j = 32) (hs : e = 0 ∨ nat l (e - 1) ≠ 32) : tail l = l.take e := by
  have e1 : l.drop e = blanks (l.length - e) := by
    unfold blanks
    apply List.ext_getElem?
    intro j
    rw [List.getElem?_drop]
    by_cases hj : j < l.length - e
    · rw [get_nat l (e + j) (by omega) 32 (by omega) (h (e + j) (by omega) (by omega)), List.getElem?_replicate, if_pos hj]
      rfl
    · rw [List.getElem?_eq_none (by omega), List.getElem?_eq_none (by rw [List.length_replicate]; omega)]
  conv => lhs; rw [← List.take_append_drop e l]
  rw [e1, tail_blanks]
  apply tail_of
  rcases hs with rfl | hs
  · simp
  · by_cases h0 : e = 0
    · subst h0; simp
    · rw [List.getLast?_eq_getElem?, List.length_take_of_le he, List.getElem?_take, if_pos (by omega)]
      exact ne_nat l (e - 1) (by omega) 32 hs
theorem drop_nat (l : B) (a k : Nat) : nat (l.drop a) k = nat l (a + k) := by
  unfold nat
  rw [List.getD_eq_getElem?_getD, List.getElem?_drop, ← List.getD_eq_getElem?_getD]
theorem lineL_at (n : Int) (r : B) (k e : Nat) (hk : k ≤ e) (he : e ≤ r.length) (h1 : ∀ j, j < k → nat r j = 32) (h2 : k = r.length ∨ nat r k ≠ 32) (h3 : ∀ j, e ≤ j → j < r.length → nat r j = 32) (h4 : e = k ∨ nat r (e - 1) ≠ 32) :
    lineL n r = if k < e ∧ nat r k ≠ 35 then [⟨n, k, (r.drop k).take (e - k)⟩] else [] := by
  have hl := lead_at r k (by omega) h1 h2
  unfold lineL says
  rw [hl]
  by_cases hke : k < e
  · have hlt : k < r.length := by omega
    have hne : r.drop k ≠ [] := by
      intro h
      have := congrArg List.length h
      rw [List.length_drop, List.length_nil] at this
      omega
    rw [List.head?_drop]
    by_cases h35 : nat r k = 35
    · rw [if_neg (show ¬ (k < e ∧ nat r k ≠ 35) from fun h => h.2 h35), get_nat r k hlt 35 (by omega) h35]
      simp
    · rw [if_pos (show k < e ∧ nat r k ≠ 35 from ⟨hke, h35⟩), if_pos (show (decide (r.drop k ≠ []) && decide (r[k]? ≠ some 35)) = true by
        simp only [Bool.and_eq_true, decide_eq_true_eq]
        exact ⟨hne, ne_nat r k hlt 35 h35⟩)]
      unfold lineOf
      rw [hl, tail_at (r.drop k) (e - k) (by rw [List.length_drop]; omega) (fun j a b => by rw [List.length_drop] at b; rw [drop_nat]; exact h3 _ (by omega) (by omega))
        (by
          rcases h4 with h4 | h4
          · exact .inl (by omega)
          · exact .inr (by rw [drop_nat, show k + (e - k - 1) = e - 1 by omega]; exact h4)), List.length_drop]
      congr 2
      omega
  · have hkl : k = r.length := by
      rcases h2 with h2 | h2
      · exact h2
      · by_cases hlt : k < r.length
        · exact absurd (h3 k (by omega) hlt) h2
        · omega
    rw [if_neg (show ¬ (k < e ∧ nat r k ≠ 35) from fun h => hke h.1), List.drop_eq_nil_of_le (by omega)]
    simp
theorem head_nat (l : B) (h : l ≠ []) (c : UInt8) : l.head? = some c ↔ nat l 0 = c.toNat := by
  cases l with
  | nil => exact absurd rfl h
  | cons x t =>
    constructor
    · intro e; simp only [List.head?_cons, Option.some.injEq] at e; subst e; rfl
    · intro e; simp only [List.head?_cons, Option.some.injEq]; exact UInt8.toNat_inj.1 e
theorem last_nat (l : B) (h : l ≠ []) (c : UInt8) : l.getLast? = some c ↔ nat l (l.length - 1) = c.toNat := by
  have hl : 0 < l.length := by cases l with | nil => exact absurd rfl h | cons _ _ => simp
  rw [List.getLast?_eq_getElem?, List.getElem?_eq_getElem (by omega)]
  constructor
  · intro e
    rw [← nat_get l (l.length - 1) (by omega), Option.some.inj e]
  · intro e
    congr 1
    apply UInt8.toNat_inj.1
    rw [nat_get, e]
/-- What the document asks of a line. -/
theorem may_doc (last : Int) (x : Line) : may last x = true ↔ last < x.no ∧ x.no ≤ 8000 ∧ 0 ≤ x.ind ∧ x.ind ≤ 8000 ∧ x.s ≠ [] ∧ (right x.s && plainB x.s) = true ∧ nat x.s 0 ≠ 32 ∧ nat x.s 0 ≠ 35 ∧ nat x.s (x.s.length - 1) ≠ 32 ∧ ¬ (x.ind = 0 ∧ markB x.s = true) := by
  constructor
  · intro h
    obtain ⟨a, b, c, d, e, f⟩ := may_six h
    obtain ⟨g1, g2, g3, g4, g5⟩ := may_parts h
    refine ⟨a, b, c, d, e, by rw [f, g1]; rfl, fun h => g3 ((head_nat _ e 32).2 h), fun h => g5 ((head_nat _ e 35).2 h), fun h => g4 ((last_nat _ e 32).2 h), fun h => ?_⟩
    have := g2 h.2
    omega
  · rintro ⟨a, b, c, d, e, f, g1, g2, g3, g4⟩
    obtain ⟨f1, f2⟩ := Bool.and_eq_true_iff.1 f
    have h1 : x.s.head? ≠ some 32 := fun h => g1 ((head_nat _ e 32).1 h)
    have h2 : x.s.head? ≠ some 35 := fun h => g2 ((head_nat _ e 35).1 h)
    have h3 : x.s.getLast? ≠ some 32 := fun h => g3 ((last_nat _ e 32).1 h)
    unfold may
    rw [Bool.and_eq_true_iff, Bool.and_eq_true_iff, Bool.and_eq_true_iff]
    refine ⟨?_, ?_, ?_, decide_eq_true h2⟩
    · simp [six, a, b, c, d, e, f1]
    · unfold trouble
      rw [if_pos f2]
      cases hm : markB x.s with
      | false => rfl
      | true =>
        have : 0 < x.ind := by
          by_cases h0 : x.ind = 0
          · exact absurd ⟨h0, hm⟩ g4
          · omega
        simp [this]
    · rw [trim_eq, tail_of _ h3, lead_of _ h1]
      simp
end Ln
