/- Right texts, in plain Lean: a text is right just if its parts on both sides of a sign below 128 are. -/
import Derived.Lib.DecodeN
set_option linter.unusedVariables false
set_option linter.unusedSimpArgs false
namespace Ln
abbrev B := List UInt8
def nat (l : B) (i : Nat) : Nat := (l.getD i 0).toNat
theorem nat_lt (l : B) (i : Nat) : nat l i < 256 := by unfold nat; exact UInt8.toNat_lt _
/-- The sign that stands ahead, and its width. -/
def dec (l : B) : Nat × Nat := Go.Lib.decodeN l.length (nat l 0) (nat l 1) (nat l 2) (nat l 3)
theorem dec_ascii (c : UInt8) (t : B) (hc : c.toNat < 128) : dec (c :: t) = (c.toNat, 1) := by
  unfold dec Go.Lib.decodeN
  rw [if_pos (show nat (c :: t) 0 < 128 from hc)]
  rfl
theorem dec_pos (l : B) : 1 ≤ (dec l).2 := by
  unfold dec Go.Lib.decodeN
  repeat' split
  all_goals simp
theorem dec_le (l : B) (h : l ≠ []) : (dec l).2 ≤ l.length := by
  have h1 : 1 ≤ l.length := by cases l with | nil => exact absurd rfl h | cons _ _ => simp
  unfold dec Go.Lib.decodeN
  repeat' split
  all_goals (simp only; omega)
theorem stop1 (n m b0 b1 b2 b3 d1 d2 d3 : Nat) (h : ¬ (1 < n ∧ b1 / 64 = 2)) (h' : ¬ (1 < m ∧ d1 / 64 = 2)) : Go.Lib.decodeN n b0 b1 b2 b3 = Go.Lib.decodeN m b0 d1 d2 d3 := by
  simp only [Go.Lib.decodeN, h, h', false_and, and_false, if_false]
theorem stop2 (n m b0 b1 b2 b3 d2 d3 : Nat) (h0 : (1 < n ∧ b1 / 64 = 2) ↔ (1 < m ∧ b1 / 64 = 2)) (h : ¬ (2 < n ∧ b2 / 64 = 2)) (h' : ¬ (2 < m ∧ d2 / 64 = 2)) : Go.Lib.decodeN n b0 b1 b2 b3 = Go.Lib.decodeN m b0 b1 d2 d3 := by
  simp only [Go.Lib.decodeN, h, h', h0, false_and, and_false, if_false]
theorem stop3 (n m b0 b1 b2 b3 d3 : Nat) (h0 : (1 < n ∧ b1 / 64 = 2) ↔ (1 < m ∧ b1 / 64 = 2)) (h1 : (2 < n ∧ b2 / 64 = 2) ↔ (2 < m ∧ b2 / 64 = 2)) (h : ¬ (3 < n ∧ b3 / 64 = 2)) (h' : ¬ (3 < m ∧ d3 / 64 = 2)) : Go.Lib.decodeN n b0 b1 b2 b3 = Go.Lib.decodeN m b0 b1 b2 d3 := by
  simp only [Go.Lib.decodeN, h, h', h0, h1, false_and, and_false, if_false]
theorem stop4 (n m b0 b1 b2 b3 : Nat) (h : 4 ≤ n) (h' : 4 ≤ m) : Go.Lib.decodeN n b0 b1 b2 b3 = Go.Lib.decodeN m b0 b1 b2 b3 := by
  have e1 : 1 < n := by omega
  have e2 : 2 < n := by omega
  have e3 : 3 < n := by omega
  have f1 : 1 < m := by omega
  have f2 : 2 < m := by omega
  have f3 : 3 < m := by omega
  simp only [Go.Lib.decodeN, e1, e2, e3, f1, f2, f3]
theorem dec_append (a : B) (c : UInt8) (t : B) (ha : a ≠ []) (hc : c.toNat < 128) : dec (a ++ c :: t) = dec a := by
  have hc' : ¬ c.toNat / 64 = 2 := by omega
  unfold dec
  match a, ha with
  | [x], _ => exact stop1 _ _ _ _ _ _ _ _ _ (fun h => hc' h.2) (fun h => absurd h.1 (by simp))
  | [x, y], _ => exact stop2 _ _ _ _ _ _ _ _ (by simp [show nat ([x, y] ++ c :: t) 1 = nat [x, y] 1 from rfl]) (fun h => hc' h.2) (fun h => absurd h.1 (by simp))
  | [x, y, z], _ => exact stop3 _ _ _ _ _ _ _ (by simp [show nat ([x, y, z] ++ c :: t) 1 = nat [x, y, z] 1 from rfl]) (by simp [show nat ([x, y, z] ++ c :: t) 2 = nat [x, y, z] 2 from rfl]) (fun h => hc' h.2) (fun h => absurd h.1 (by simp))
  | x :: y :: z :: u :: r, _ => exact stop4 _ _ _ _ _ _ (by simp) (by simp)
/-- Is a text right? -/
def right (l : B) : Bool :=
  if h : l = [] then true else if dec l = (65533, 1) then false else right (l.drop (dec l).2)
termination_by l.length
decreasing_by
  have h1 := dec_pos l
  have h2 : 1 ≤ l.length := by cases l with | nil => exact absurd rfl h | cons _ _ => simp
  simp only [List.length_drop]
  omega
theorem right_nil : right [] = true := by rw [right]; simp
theorem right_bad (l : B) (h : l ≠ []) (hb : dec l = (65533, 1)) : right l = false := by rw [right]; simp [h, hb]
theorem right_step (l : B) (h : l ≠ []) (hb : dec l ≠ (65533, 1)) : right l = right (l.drop (dec l).2) := by rw [right]; simp [h, hb]
theorem right_cons (c : UInt8) (t : B) (hc : c.toNat < 128) : right (c :: t) = right t := by
  rw [right_step _ (by simp) (by rw [dec_ascii c t hc]; simp only [ne_eq, Prod.mk.injEq]; omega), dec_ascii c t hc]
  rfl
theorem right_append (c : UInt8) (t : B) (hc : c.toNat < 128) : ∀ (n : Nat) (a : B), a.length ≤ n → right (a ++ c :: t) = (right a && right t)
  | n, [], _ => by rw [List.nil_append, right_cons c t hc, right_nil, Bool.true_and]
  | 0, x :: a, h => by simp at h
  | n + 1, x :: a, h => by
    have hd := dec_append (x :: a) c t (by simp) hc
    by_cases hb : dec (x :: a) = (65533, 1)
    · rw [right_bad _ (by simp) (hd.trans hb), right_bad _ (by simp) hb, Bool.false_and]
    · rw [right_step _ (by simp) (by rw [hd]; exact hb), right_step (x :: a) (by simp) hb, hd]
      have h1 := dec_pos (x :: a)
      have h2 := dec_le (x :: a) (by simp)
      rw [List.drop_append_of_le_length h2]
      exact right_append c t hc n _ (by simp only [List.length_drop]; simp only [List.length_cons] at h ⊢; omega)
theorem right_split (a : B) (c : UInt8) (t : B) (hc : c.toNat < 128) : right (a ++ c :: t) = (right a && right t) := right_append c t hc _ a (Nat.le_refl _)
theorem right_ascii : ∀ (l : B), (∀ b ∈ l, b.toNat < 128) → right l = true
  | [], _ => right_nil
  | c :: t, h => by rw [right_cons c t (h c (by simp))]; exact right_ascii t fun b hb => h b (by simp [hb])
theorem right_front : ∀ (l a : B), (∀ b ∈ l, b.toNat < 128) → right (l ++ a) = right a
  | [], a, _ => rfl
  | c :: t, a, h => by rw [List.cons_append, right_cons c _ (h c (by simp))]; exact right_front t a fun b hb => h b (by simp [hb])
theorem right_back (a l : B) (h : ∀ b ∈ l, b.toNat < 128) : right (a ++ l) = right a := by
  cases l with
  | nil => rw [List.append_nil]
  | cons c t => rw [right_split a c t (h c (by simp)), right_ascii t (fun b hb => h b (by simp [hb])), Bool.and_true]
end Ln
