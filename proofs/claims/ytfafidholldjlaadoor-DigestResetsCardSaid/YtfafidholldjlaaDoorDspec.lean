/- Sums of messages in plain Lean: blocks one after the other, what is left, a message's end. -/
import Derived.Test.YtfafidholldjlaaDoorAbc
set_option linter.unusedVariables false
set_option linter.unusedSimpArgs false
namespace Sha
/-- A list's byte at a place. -/
def byteOf (l : List UInt8) (i : Nat) : Nat := (l.getD i 0).toNat
theorem byteOf_lt (l : List UInt8) (i : Nat) : byteOf l i < 256 := UInt8.toNat_lt _
/-- The state after so many whole blocks of a list. -/
def St.after (s : St) (l : List UInt8) : Nat → St
  | 0 => s
  | k + 1 => (St.after s l k).compress (fun i => byteOf l (64 * k + i))
theorem be_congr {b c : Nat → Nat} (t : Nat) (h : ∀ i, i < 4 → b (4 * t + i) = c (4 * t + i)) : be b t = be c t := by
  unfold be
  have h0 := h 0 (by decide)
  have h1 := h 1 (by decide)
  have h2 := h 2 (by decide)
  have h3 := h 3 (by decide)
  simp only [Nat.add_zero] at h0
  rw [h0, h1, h2, h3]
theorem sched_congr {b c : Nat → Nat} (h : ∀ i, i < 64 → b i = c i) : ∀ t, sched b t = sched c t
  | 0 => rfl
  | t + 1 => by
    have ih := sched_congr h t
    unfold sched
    rw [ih]
    by_cases ht : t < 16
    · rw [if_pos ht, if_pos ht, be_congr t (fun i hi => h _ (by omega))]
    · rw [if_neg ht, if_neg ht]
theorem word_congr {b c : Nat → Nat} (h : ∀ i, i < 64 → b i = c i) (t : Nat) : word b t = word c t := by
  unfold word
  rw [sched_congr h t]
  by_cases ht : t < 16
  · rw [if_pos ht, if_pos ht, be_congr t (fun i hi => h _ (by omega))]
  · rw [if_neg ht, if_neg ht]
theorem St.rounds_congr (s : St) {b c : Nat → Nat} (h : ∀ i, i < 64 → b i = c i) : ∀ t, s.rounds b t = s.rounds c t
  | 0 => rfl
  | t + 1 => by unfold St.rounds; rw [St.rounds_congr s h t, word_congr h t]
theorem St.compress_congr (s : St) {b c : Nat → Nat} (h : ∀ i, i < 64 → b i = c i) : s.compress b = s.compress c := by
  unfold St.compress
  rw [St.rounds_congr s h]
theorem St.after_ok {s : St} (hs : s.ok) (l : List UInt8) : ∀ k, (s.after l k).ok
  | 0 => hs
  | k + 1 => St.add_ok _ _
theorem St.after_congr (s : St) {l m : List UInt8} : ∀ k, (∀ i, i < 64 * k → byteOf l i = byteOf m i) → s.after l k = s.after m k
  | 0, _ => rfl
  | k + 1, h => by
    unfold St.after
    rw [St.after_congr s k (fun i hi => h i (by omega)), St.compress_congr _ (fun i hi => h (64 * k + i) (by omega))]
theorem St.after_add (s : St) (l : List UInt8) (j : Nat) : ∀ k, s.after l (j + k) = (s.after l j).after (l.drop (64 * j)) k
  | 0 => rfl
  | k + 1 => by
    show St.after s l (j + k + 1) = _
    unfold St.after
    rw [St.after_add s l j k]
    refine St.compress_congr _ (fun i hi => ?_)
    unfold byteOf
    rw [List.getD_eq_getElem?_getD, List.getD_eq_getElem?_getD, List.getElem?_drop]
    congr 3
    omega
theorem byteOf_append_left (l m : List UInt8) (i : Nat) (h : i < l.length) : byteOf (l ++ m) i = byteOf l i := by
  unfold byteOf
  rw [List.getD_eq_getElem?_getD, List.getD_eq_getElem?_getD, List.getElem?_append_left h]
/-- What was written before, with what is written now. -/
theorem St.after_append (s : St) (l m : List UInt8) (j k : Nat) (h : 64 * j ≤ l.length) :
    (s.after l j).after (l.drop (64 * j) ++ m) k = s.after (l ++ m) (j + k) := by
  rw [St.after_add, St.after_congr s j (l := l ++ m) (m := l) (fun i hi => byteOf_append_left l m i (by omega)), List.drop_append_of_le_length h]
/-- A message's end. -/
def zeros (n : Nat) : Nat := (119 - n % 64) % 64
def endOf (n : Nat) : List UInt8 := 128 :: (List.replicate (zeros n) 0 ++ [0, 0, 0, 0, UInt8.ofNat (8 * n / 16777216), UInt8.ofNat (8 * n / 65536), UInt8.ofNat (8 * n / 256), UInt8.ofNat (8 * n)])
theorem endOf_length (n : Nat) : (endOf n).length = 9 + zeros n := by
  simp [endOf]
  omega
theorem end_whole (n : Nat) : (n + (endOf n).length) % 64 = 0 := by
  rw [endOf_length]
  unfold zeros
  omega
/-- A message's state: that of its blocks, its end among them. -/
def sumOf (m : List UInt8) : St := St.first.after (m ++ endOf m.length) ((m ++ endOf m.length).length / 64)
end Sha
