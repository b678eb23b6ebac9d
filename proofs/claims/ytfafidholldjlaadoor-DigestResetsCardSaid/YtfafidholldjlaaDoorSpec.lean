/- The plain mathematics of the rounds of SHA-256, on natural numbers: no program in sight. -/
set_option linter.unusedVariables false
set_option linter.unusedSimpArgs false
namespace Sha
/-- A word, turned by k places. -/
def rr (x k : Nat) : Nat := x / 2 ^ k + x * 2 ^ (32 - k) % 4294967296
theorem rr_lt {x k : Nat} (hx : x < 4294967296) (hk : k ≤ 32) (hk1 : 1 ≤ k) : rr x k < 4294967296 := by
  unfold rr
  have h1 : x / 2 ^ k < 2 ^ (32 - k) := by
    rw [Nat.div_lt_iff_lt_mul (Nat.two_pow_pos k), ← Nat.pow_add, Nat.sub_add_cancel hk]; exact hx
  have h2 : x * 2 ^ (32 - k) % 4294967296 = 2 ^ (32 - k) * (x % 2 ^ k) := by
    have e : (4294967296 : Nat) = 2 ^ (32 - k) * 2 ^ k := by rw [← Nat.pow_add, Nat.sub_add_cancel hk]
    rw [e, Nat.mul_comm x, Nat.mul_mod_mul_left]
  rw [h2]
  have h3 : x % 2 ^ k + 1 ≤ 2 ^ k := Nat.mod_lt _ (Nat.two_pow_pos k)
  have h4 : 2 ^ (32 - k) * (x % 2 ^ k + 1) ≤ 2 ^ (32 - k) * 2 ^ k := Nat.mul_le_mul_left _ h3
  rw [← Nat.pow_add, Nat.sub_add_cancel hk, Nat.mul_add, Nat.mul_one] at h4
  have e32 : (2 : Nat) ^ 32 = 4294967296 := rfl
  omega
theorem rr_or {x k : Nat} (hx : x < 4294967296) (hk : k ≤ 32) : (x * 2 ^ (32 - k) % 4294967296) ||| (x / 2 ^ k) = rr x k := by
  unfold rr
  have h1 : x / 2 ^ k < 2 ^ (32 - k) := by
    rw [Nat.div_lt_iff_lt_mul (Nat.two_pow_pos k), ← Nat.pow_add, Nat.sub_add_cancel hk]; exact hx
  have h2 : x * 2 ^ (32 - k) % 4294967296 = 2 ^ (32 - k) * (x % 2 ^ k) := by
    have e : (4294967296 : Nat) = 2 ^ (32 - k) * 2 ^ k := by rw [← Nat.pow_add, Nat.sub_add_cancel hk]
    rw [e, Nat.mul_comm x, Nat.mul_mod_mul_left]
  rw [h2, ← Nat.two_pow_add_eq_or_of_lt h1, Nat.add_comm]
/-- A word turned by several places each, all put together. -/
def turned (x : Nat) (l : List Nat) : Nat := (l.map (rr x)).foldl (· ^^^ ·) 0
theorem turned_snoc (x k : Nat) (l : List Nat) : turned x (l ++ [k]) = turned x l ^^^ rr x k := by simp [turned]
theorem foldl_xor_lt : ∀ (l : List Nat) (a : Nat), a < 2 ^ 32 → (∀ y ∈ l, y < 2 ^ 32) → l.foldl (· ^^^ ·) a < 2 ^ 32
  | [], _, h, _ => h
  | y :: l, a, h, hl => foldl_xor_lt l (a ^^^ y) (Nat.xor_lt_two_pow h (hl y (by simp))) (fun z hz => hl z (by simp [hz]))
theorem turned_lt {x : Nat} {l : List Nat} (hx : x < 4294967296) (hl : ∀ k ∈ l, 1 ≤ k ∧ k ≤ 31) : turned x l < 4294967296 := by
  refine foldl_xor_lt _ 0 (by decide) ?_
  intro y hy
  obtain ⟨k, hk, rfl⟩ := List.mem_map.1 hy
  have := hl k hk
  exact rr_lt hx (by omega) (by omega)
def sig0 (x : Nat) : Nat := turned x [7, 18] ^^^ (x / 8)
def sig1 (x : Nat) : Nat := turned x [17, 19] ^^^ (x / 1024)
/-- A word from four bytes, the greatest part first. -/
def be (b : Nat → Nat) (t : Nat) : Nat := ((b (4 * t) * 256 + b (4 * t + 1)) * 256 + b (4 * t + 2)) * 256 + b (4 * t + 3)
def next (l : List Nat) (t : Nat) : Nat := (l.getD (t - 16) 0 + sig0 (l.getD (t - 15) 0) + l.getD (t - 7) 0 + sig1 (l.getD (t - 2) 0)) % 4294967296
/-- The first words of a block's schedule. -/
def sched (b : Nat → Nat) : Nat → List Nat
  | 0 => []
  | t + 1 => sched b t ++ [if t < 16 then be b t else next (sched b t) t]
theorem sched_length (b : Nat → Nat) : ∀ t, (sched b t).length = t
  | 0 => rfl
  | t + 1 => by simp [sched, sched_length b t]
/-- The word at a place. -/
def word (b : Nat → Nat) (t : Nat) : Nat := if t < 16 then be b t else next (sched b t) t
theorem sched_succ (b : Nat → Nat) (t : Nat) : sched b (t + 1) = sched b t ++ [word b t] := rfl
theorem sched_getD (b : Nat → Nat) : ∀ t k, k < t → (sched b t).getD k 0 = word b k
  | t + 1, k, h => by
    have hl := sched_length b t
    rw [sched_succ, List.getD_eq_getElem?_getD]
    by_cases hk : k < t
    · rw [List.getElem?_append_left (by rw [hl]; exact hk), ← List.getD_eq_getElem?_getD]; exact sched_getD b t k hk
    · obtain rfl : k = t := by omega
      rw [List.getElem?_append_right (by rw [hl]; exact Nat.le_refl _), hl]; simp
theorem sched_eq (b : Nat → Nat) (n : Nat) : sched b n = (List.range n).map (word b) := by
  induction n with
  | zero => rfl
  | succ n ih => rw [sched_succ, ih, List.range_succ, List.map_append]; rfl
theorem word_16 (b : Nat → Nat) (t : Nat) (h : 16 ≤ t) : word b t = (word b (t - 16) + sig0 (word b (t - 15)) + word b (t - 7) + sig1 (word b (t - 2))) % 4294967296 := by
  unfold word
  rw [if_neg (by omega)]
  unfold next
  rw [sched_getD b t _ (by omega), sched_getD b t _ (by omega), sched_getD b t _ (by omega), sched_getD b t _ (by omega)]
  rfl
theorem word_lt (b : Nat → Nat) (hb : ∀ i, b i < 256) (t : Nat) : word b t < 4294967296 := by
  unfold word
  split
  · unfold be
    have h0 := hb (4 * t); have h1 := hb (4 * t + 1); have h2 := hb (4 * t + 2); have h3 := hb (4 * t + 3)
    omega
  · exact Nat.mod_lt _ (by decide)
end Sha
