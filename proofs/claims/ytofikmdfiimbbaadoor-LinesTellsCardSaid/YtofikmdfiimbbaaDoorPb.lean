/- Rows, lines, what Split answers, in plain Lean. -/
import Derived.Test.YtofikmdfiimbbaaDoorPa
import Derived.Lib.IndexMore
import Derived.Lib.TrimByte
set_option linter.unusedVariables false
set_option linter.unusedSimpArgs false
namespace Ln
/-- A text's rows. -/
def rows : B → List B
  | [] => []
  | b :: t => if b = 10 then [] :: rows t else match rows t with
    | [] => [[b]]
    | r :: rs => if t.head? = some 10 then [b] :: rs else (b :: r) :: rs
theorem rows_nl (t : B) : rows (10 :: t) = [] :: rows t := by simp [rows]
theorem rows_ne : ∀ (t : B), t ≠ [] → rows t ≠ []
  | [], h => absurd rfl h
  | b :: t, _ => by
    unfold rows
    split
    · simp
    · split
      · simp
      · split <;> simp
theorem rows_b (b : UInt8) (hb : b ≠ 10) (t : B) (r : B) (rs : List B) (h : rows t = r :: rs) : rows (b :: t) = (b :: r) :: rs := by
  unfold rows
  rw [if_neg hb, h]
  simp only
  split
  · rename_i hh
    cases t with
    | nil => simp at hh
    | cons c u =>
      simp only [List.head?_cons, Option.some.injEq] at hh
      subst hh
      rw [rows_nl] at h
      simp only [List.cons.injEq] at h
      rw [← h.1]
  · rfl
/-- A row, and what is behind it. -/
theorem rows_row : ∀ (a t : B), (∀ b ∈ a, b ≠ 10) → rows (a ++ 10 :: t) = a :: rows t
  | [], t, _ => rows_nl t
  | b :: a, t, h => by
    rw [List.cons_append]
    exact rows_b b (h b (by simp)) _ a _ (rows_row a t fun x hx => h x (by simp [hx]))
theorem rows_last : ∀ (a : B), a ≠ [] → (∀ b ∈ a, b ≠ 10) → rows a = [a]
  | [], h, _ => absurd rfl h
  | [b], _, h => by simp [rows, h b (by simp)]
  | b :: c :: a, _, h => rows_b b (h b (by simp)) _ _ _ (rows_last (c :: a) (by simp) fun x hx => h x (by simp [hx]))
theorem rows_join : ∀ (a t : B), rows (a ++ 10 :: t) = rows (a ++ [10]) ++ rows t
  | [], t => by simp [rows_nl, rows]
  | b :: a, t => by
    by_cases hb : b = 10
    · subst hb
      rw [List.cons_append, List.cons_append, rows_nl, rows_nl, rows_join a t, List.cons_append]
    · have ih := rows_join a t
      cases hr : rows (a ++ [10]) with
      | nil => exact absurd hr (rows_ne _ (by simp))
      | cons r rs =>
        rw [hr, List.cons_append] at ih
        rw [List.cons_append, List.cons_append, rows_b b hb _ _ _ ih, rows_b b hb _ _ _ hr, List.cons_append]
/-- The first row, as Cut takes it. -/
theorem rows_cut : ∀ (l : B), l ≠ [] → rows l = (Go.Lib.cut l [10]).1 :: rows (Go.Lib.cut l [10]).2.1
  | [], h => absurd rfl h
  | [b], _ => by
    by_cases hb : b = 10
    · subst hb; rfl
    · have e : Go.Lib.index [b] [10] = -1 := by simp [Go.Lib.index, List.isPrefixOf, show ¬ 10 = b from fun e => hb e.symm]
      simp [Go.Lib.cut, e, rows, hb]
  | b :: c :: l, _ => by
    by_cases hb : b = 10
    · subst hb
      have e : Go.Lib.index (10 :: c :: l) [10] = 0 := by simp [Go.Lib.index, List.isPrefixOf]
      rw [rows_nl]
      simp [Go.Lib.cut, e]
    · have ih := rows_cut (c :: l) (by simp)
      have e : Go.Lib.index (b :: c :: l) [10] = if Go.Lib.index (c :: l) [10] == -1 then -1 else Go.Lib.index (c :: l) [10] + 1 := by
        rw [Go.Lib.index]
        simp [List.isPrefixOf, show ¬ 10 = b from fun e => hb e.symm]
      have hg := Go.Lib.index_ge (c :: l) [10]
      rw [rows_b b hb _ _ _ ih]
      unfold Go.Lib.cut
      rw [e]
      by_cases hi : Go.Lib.index (c :: l) [10] = -1
      · simp [hi]
      · have h0 : 0 ≤ Go.Lib.index (c :: l) [10] := by omega
        have h1 : 0 ≤ Go.Lib.index (c :: l) [10] + 1 := by omega
        rw [if_pos h0]
        rw [show (Go.Lib.index (c :: l) [10] == -1) = false from by simp [hi]]
        simp only [Bool.false_eq_true, if_false]
        rw [if_pos h1]
        have e2 : (Go.Lib.index (c :: l) [10] + 1).toNat = (Go.Lib.index (c :: l) [10]).toNat + 1 := by omega
        have e3 : (Go.Lib.index (c :: l) [10] + 1).toNat + [(10 : UInt8)].length = ((Go.Lib.index (c :: l) [10]).toNat + [(10 : UInt8)].length) + 1 := by simp; omega
        simp only [e3]
        rw [e2, List.take_succ_cons, List.drop_succ_cons]
theorem cut_less (l : B) (h : l ≠ []) : (Go.Lib.cut l [10]).2.1.length < l.length := by
  have h1 : 1 ≤ l.length := by cases l with | nil => exact absurd rfl h | cons _ _ => simp
  unfold Go.Lib.cut
  split
  · simp only [List.length_drop, List.length_cons, List.length_nil]; omega
  · simp only [List.length_nil]; omega
/-- What is wrong with a row: 80, 81, or 0. -/
def plainB (r : B) : Bool := r.all fun b => decide (32 ≤ b.toNat) && decide (b.toNat ≠ 127)
def markB (r : B) : Bool := ([45, 45, 45].isPrefixOf r || [46, 46, 46].isPrefixOf r) && (decide (r.length = 3) || decide (r[3]? = some 32))
def trouble (r : B) : Int := if plainB r then (if markB r then 81 else 0) else 80
structure Line where
  no : Int
  ind : Int
  s : B
deriving DecidableEq
def lead (r : B) : B := r.dropWhile (· == 32)
def tail (r : B) : B := (r.reverse.dropWhile (· == 32)).reverse
def says (r : B) : Bool := decide (lead r ≠ []) && decide ((lead r).head? ≠ some 35)
def lineOf (no : Int) (r : B) : Line := ⟨no, (r.length : Int) - ((lead r).length : Int), tail (lead r)⟩
def lineL (no : Int) (r : B) : List Line := if says r then [lineOf no r] else []
def bad : Int → List B → Int × Int
  | _, [] => (0, 0)
  | n, r :: rs => if trouble r = 0 then bad (n + 1) rs else (n, trouble r)
def lns : Int → List B → List Line
  | _, [] => []
  | n, r :: rs => lineL n r ++ lns (n + 1) rs
def split (s : B) : List Line × Int × Int :=
  if 8000 < s.length then ([], 0, 20)
  else if right s = false then ([], 0, 40)
  else if (bad 1 (rows s)).2 = 0 then (lns 1 (rows s), 0, 0) else ([], bad 1 (rows s))
theorem trouble_or (r : B) : trouble r = 0 ∨ trouble r = 80 ∨ trouble r = 81 := by
  unfold trouble
  split
  · split <;> simp
  · simp
theorem bad_zero : ∀ (n : Int) (rs : List B), 0 < n → ((bad n rs).2 = 0 ↔ ∀ r ∈ rs, trouble r = 0)
  | _, [], _ => by simp [bad]
  | n, r :: rs, hn => by
    unfold bad
    by_cases h : trouble r = 0
    · rw [if_pos h, bad_zero (n + 1) rs (by omega)]
      simp [h]
    · rw [if_neg h]
      simp [h]
theorem bad_append : ∀ (n : Int) (a b : List B), (∀ r ∈ a, trouble r = 0) → bad n (a ++ b) = bad (n + a.length) b
  | n, [], b, _ => by simp
  | n, r :: a, b, h => by
    rw [List.cons_append, bad, if_pos (h r (by simp)), bad_append (n + 1) a b fun x hx => h x (by simp [hx])]
    congr 1
    simp only [List.length_cons]
    omega
theorem lns_append : ∀ (n : Int) (a b : List B), lns n (a ++ b) = lns n a ++ lns (n + a.length) b
  | n, [], b => by simp [lns]
  | n, r :: a, b => by
    rw [List.cons_append, lns, lns, lns_append (n + 1) a b, List.append_assoc]
    congr 3
    simp only [List.length_cons]
    omega
theorem split_zero (s : B) : (split s).2.2 = 0 ↔ s.length ≤ 8000 ∧ right s = true ∧ ∀ r ∈ rows s, trouble r = 0 := by
  unfold split
  by_cases h1 : 8000 < s.length
  · rw [if_pos h1]; simp; omega
  · rw [if_neg h1]
    by_cases h2 : right s = false
    · rw [if_pos h2]; simp [h2]
    · rw [if_neg h2, ← bad_zero 1 (rows s) (by omega)]
      by_cases h3 : (bad 1 (rows s)).2 = 0
      · rw [if_pos h3]; simp [h3]; exact ⟨by omega, by simpa using h2⟩
      · rw [if_neg h3]; simp [h3]
theorem split_ok (s : B) (h : (split s).2.2 = 0) : split s = (lns 1 (rows s), 0, 0) := by
  obtain ⟨h1, h2, h3⟩ := (split_zero s).1 h
  unfold split
  rw [if_neg (by omega), if_neg (by simp [h2]), if_pos ((bad_zero 1 _ (by omega)).2 h3)]
theorem split_none (s : B) (h : (split s).2.2 ≠ 0) : (split s).1 = [] := by
  unfold split at h ⊢
  split
  · rfl
  · split
    · rfl
    · split
      · rename_i h1 h2 h3
        rw [if_neg h1, if_neg h2, if_pos h3] at h
        exact absurd rfl h
      · rfl
theorem bad_no : ∀ (n : Int) (rs : List B), 0 ≤ n → 0 ≤ (bad n rs).1
  | _, [], _ => by simp [bad]
  | n, r :: rs, h => by
    unfold bad
    split
    · exact bad_no (n + 1) rs (by omega)
    · exact h
theorem split_no (s : B) : 0 ≤ (split s).2.1 := by
  unfold split
  split
  · simp
  · split
    · simp
    · split
      · simp
      · exact bad_no 1 _ (by omega)
end Ln
