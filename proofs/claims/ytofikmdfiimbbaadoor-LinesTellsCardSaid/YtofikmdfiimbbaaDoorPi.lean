/- A sign's bytes, the document's way, and how it is read. In plain Lean. -/
import Derived.Test.YtofikmdfiimbbaaDoorPc
set_option linter.unusedVariables false
set_option linter.unusedSimpArgs false
namespace Ln
def signB (n : Nat) : Bool := decide (n ≤ 1114111) && (decide (n < 55296) || decide (57343 < n))
def by8 (n : Nat) : UInt8 := UInt8.ofNat n
def bytesL (n : Nat) : B :=
  if n < 128 then [by8 n] else if n < 2048 then [by8 (192 + n / 64), by8 (128 + n % 64)]
  else if n < 65536 then [by8 (224 + n / 4096), by8 (128 + n / 64 % 64), by8 (128 + n % 64)]
  else [by8 (240 + n / 262144), by8 (128 + n / 4096 % 64), by8 (128 + n / 64 % 64), by8 (128 + n % 64)]
theorem by8_eq (n : Nat) (h : n < 256) (c : UInt8) : by8 n = c ↔ n = c.toNat := by
  unfold by8
  constructor
  · rintro rfl; rw [UInt8.toNat_ofNat']; omega
  · rintro rfl; exact UInt8.ofNat_toNat
def wid (b : Nat) : Nat := if 240 ≤ b then 4 else if 224 ≤ b then 3 else if 192 ≤ b then 2 else 1
def val (l : B) : Nat :=
  let b := nat l 0
  if 240 ≤ b then ((b - 240) * 64 + nat l 1 % 64) * 64 * 64 + (nat l 2 % 64) * 64 + nat l 3 % 64
  else if 224 ≤ b then (b - 224) * 64 * 64 + (nat l 1 % 64) * 64 + nat l 2 % 64
  else if 192 ≤ b then (b - 192) * 64 + nat l 1 % 64
  else b
def oneD (l : B) : Nat × Nat := if l.length < wid (nat l 0) then (0, 0) else if signB (val l) && decide (bytesL (val l) = l.take (wid (nat l 0))) then (val l, wid (nat l 0)) else (0, 0)
theorem nat_get (l : B) (k : Nat) (h : k < l.length) : l[k].toNat = nat l k := by
  unfold nat; rw [List.getD_eq_getElem?_getD, List.getElem?_eq_getElem h]; rfl
theorem tk1 (l : B) (h : 1 ≤ l.length) (x : Nat) (hx : x < 256) : [by8 x] = l.take 1 ↔ x = nat l 0 := by
  match l, h with
  | a :: r, _ => simp only [List.take_succ_cons, List.take_zero, List.cons.injEq, and_true, by8_eq _ hx]; rfl
theorem tk2 (l : B) (h : 2 ≤ l.length) (x y : Nat) (hx : x < 256) (hy : y < 256) : [by8 x, by8 y] = l.take 2 ↔ x = nat l 0 ∧ y = nat l 1 := by
  match l, h with
  | a :: b :: r, _ => simp only [List.take_succ_cons, List.take_zero, List.cons.injEq, and_true, by8_eq _ hx, by8_eq _ hy]; rfl
theorem tk3 (l : B) (h : 3 ≤ l.length) (x y z : Nat) (hx : x < 256) (hy : y < 256) (hz : z < 256) : [by8 x, by8 y, by8 z] = l.take 3 ↔ x = nat l 0 ∧ y = nat l 1 ∧ z = nat l 2 := by
  match l, h with
  | a :: b :: c :: r, _ => simp only [List.take_succ_cons, List.take_zero, List.cons.injEq, and_true, by8_eq _ hx, by8_eq _ hy, by8_eq _ hz]; rfl
theorem tk4 (l : B) (h : 4 ≤ l.length) (x y z u : Nat) (hx : x < 256) (hy : y < 256) (hz : z < 256) (hu : u < 256) : [by8 x, by8 y, by8 z, by8 u] = l.take 4 ↔ x = nat l 0 ∧ y = nat l 1 ∧ z = nat l 2 ∧ u = nat l 3 := by
  match l, h with
  | a :: b :: c :: d :: r, _ => simp only [List.take_succ_cons, List.take_zero, List.cons.injEq, and_true, by8_eq _ hx, by8_eq _ hy, by8_eq _ hz, by8_eq _ hu]; rfl
theorem bytesL_len (n : Nat) : (bytesL n).length = if n < 128 then 1 else if n < 2048 then 2 else if n < 65536 then 3 else 4 := by
  unfold bytesL
  repeat' split
  all_goals rfl
theorem take_off {n k : Nat} {l : B} (hk : k ≤ l.length) (h : (bytesL n).length ≠ k) : ¬ bytesL n = l.take k := by
  intro e
  apply h
  rw [e, List.length_take]
  omega
set_option maxHeartbeats 2000000 in
theorem one_dec (l : B) (h : l ≠ []) : oneD l = if dec l = (65533, 1) then (0, 0) else dec l := by
  have h1 : 1 ≤ l.length := by cases l with | nil => exact absurd rfl h | cons _ _ => simp
  have c0 := nat_lt l 0
  have c1 := nat_lt l 1
  have c2 := nat_lt l 2
  have c3 := nat_lt l 3
  unfold oneD wid val dec Go.Lib.decodeN
  have t1 := tk1 l h1
  have t2 := tk2 l
  have t3 := tk3 l
  have t4 := tk4 l
  have to := fun n k => @take_off n k l
  generalize nat l 0 = b0 at *
  generalize nat l 1 = b1 at *
  generalize nat l 2 = b2 at *
  generalize nat l 3 = b3 at *
  simp only []
  by_cases e1 : b0 < 192
  · rw [if_neg (show ¬ 240 ≤ b0 by omega), if_neg (show ¬ 224 ≤ b0 by omega), if_neg (show ¬ 192 ≤ b0 by omega), if_neg (show ¬ l.length < 1 by omega),
      if_neg (show ¬ 240 ≤ b0 by omega), if_neg (show ¬ 224 ≤ b0 by omega), if_neg (show ¬ 192 ≤ b0 by omega)]
    by_cases e0 : b0 < 128
    · have hs : signB b0 = true := by unfold signB; simp only [Bool.and_eq_true, Bool.or_eq_true, decide_eq_true_eq]; omega
      have hb : bytesL b0 = l.take 1 := by unfold bytesL; rw [if_pos e0]; exact (t1 b0 (by omega)).2 rfl
      rw [if_pos e0, if_pos (by rw [hs]; simp [hb]), if_neg (by simp only [Prod.mk.injEq]; omega)]
    · have hb := to b0 1 h1 (by rw [bytesL_len]; (repeat' split) <;> omega)
      rw [if_neg e0, if_neg (by simp [hb]), if_neg (show ¬ (b0 / 32 = 6 ∧ _) from fun h => by omega), if_neg (show ¬ (b0 / 16 = 14 ∧ _) from fun h => by omega), if_neg (show ¬ (b0 / 8 = 30 ∧ _) from fun h => by omega), if_pos rfl]
  · by_cases e2 : b0 < 224
    · rw [if_neg (show ¬ 240 ≤ b0 by omega), if_neg (show ¬ 224 ≤ b0 by omega), if_pos (show 192 ≤ b0 by omega),
        if_neg (show ¬ 240 ≤ b0 by omega), if_neg (show ¬ 224 ≤ b0 by omega), if_pos (show 192 ≤ b0 by omega), if_neg (show ¬ b0 < 128 by omega),
        if_neg (show ¬ (b0 / 16 = 14 ∧ _) from fun h => by omega), if_neg (show ¬ (b0 / 8 = 30 ∧ _) from fun h => by omega)]
      by_cases g : l.length < 2
      · rw [if_pos g, if_neg (show ¬ (b0 / 32 = 6 ∧ 1 < l.length ∧ b1 / 64 = 2) by omega), if_pos rfl]
      · rw [if_neg g]
        generalize hv : (b0 - 192) * 64 + b1 % 64 = v
        have hs : signB v = true := by unfold signB; simp only [Bool.and_eq_true, Bool.or_eq_true, decide_eq_true_eq]; omega
        rw [hs, Bool.true_and, show b0 % 32 * 64 + b1 % 64 = v by omega]
        by_cases g1 : v < 128
        · have hb := to v 2 (by omega) (by rw [bytesL_len]; (repeat' split) <;> omega)
          rw [if_neg (by simp [hb]), if_neg (show ¬ v ≥ 128 by omega), ite_self, if_pos rfl]
        · have hb : bytesL v = l.take 2 ↔ b1 / 64 = 2 := by
            unfold bytesL
            rw [if_neg g1, if_pos (show v < 2048 by omega), t2 (by omega) _ _ (by omega) (by omega)]
            omega
          rw [if_pos (show v ≥ 128 by omega)]
          by_cases g2 : b1 / 64 = 2
          · rw [if_pos (by simp [hb.2 g2]), if_pos (show b0 / 32 = 6 ∧ 1 < l.length ∧ b1 / 64 = 2 by omega), if_neg (show ¬ ((v, 2) = (65533, 1)) by simp only [Prod.mk.injEq]; omega)]
          · rw [if_neg (by simp only [decide_eq_true_eq, hb]; exact g2), if_neg (show ¬ (b0 / 32 = 6 ∧ 1 < l.length ∧ b1 / 64 = 2) by omega), if_pos rfl]
    · by_cases e3 : b0 < 240
      · rw [if_neg (show ¬ 240 ≤ b0 by omega), if_pos (show 224 ≤ b0 by omega),
          if_neg (show ¬ 240 ≤ b0 by omega), if_pos (show 224 ≤ b0 by omega), if_neg (show ¬ b0 < 128 by omega),
          if_neg (show ¬ (b0 / 32 = 6 ∧ _) from fun h => by omega), if_neg (show ¬ (b0 / 8 = 30 ∧ _) from fun h => by omega)]
        by_cases g : l.length < 3
        · rw [if_pos g, if_neg (show ¬ (b0 / 16 = 14 ∧ (1 < l.length ∧ b1 / 64 = 2) ∧ 2 < l.length ∧ b2 / 64 = 2) by omega), if_pos rfl]
        · rw [if_neg g]
          generalize hv : (b0 - 224) * 64 * 64 + b1 % 64 * 64 + b2 % 64 = v
          rw [show b0 % 16 * 4096 + b1 % 64 * 64 + b2 % 64 = v by omega]
          have hs : signB v = decide (v < 55296 ∨ 57344 ≤ v ∧ v ≤ 1114111) := by
            unfold signB; rw [Bool.eq_iff_iff]; simp only [Bool.and_eq_true, Bool.or_eq_true, decide_eq_true_eq]; omega
          rw [hs]
          by_cases g1 : v < 2048
          · have hb := to v 3 (by omega) (by rw [bytesL_len]; (repeat' split) <;> omega)
            rw [if_neg (by simp [hb]), if_neg (show ¬ (v ≥ 2048 ∧ (v < 55296 ∨ 57344 ≤ v ∧ v ≤ 1114111)) by omega), ite_self, if_pos rfl]
          · have hb : bytesL v = l.take 3 ↔ (b1 / 64 = 2 ∧ b2 / 64 = 2) := by
              unfold bytesL
              rw [if_neg (show ¬ v < 128 by omega), if_neg g1, if_pos (show v < 65536 by omega), t3 (by omega) _ _ _ (by omega) (by omega) (by omega)]
              omega
            by_cases g2 : b1 / 64 = 2 ∧ b2 / 64 = 2
            · by_cases g3 : v < 55296 ∨ 57344 ≤ v ∧ v ≤ 1114111
              · rw [if_pos (by simp [hb.2 g2, g3]), if_pos (show b0 / 16 = 14 ∧ (1 < l.length ∧ b1 / 64 = 2) ∧ 2 < l.length ∧ b2 / 64 = 2 by omega), if_pos (show v ≥ 2048 ∧ (v < 55296 ∨ 57344 ≤ v ∧ v ≤ 1114111) from ⟨by omega, g3⟩), if_neg (show ¬ ((v, 3) = (65533, 1)) by simp only [Prod.mk.injEq]; omega)]
              · rw [if_neg (by simp only [Bool.and_eq_true, decide_eq_true_eq]; exact fun h => g3 h.1), if_neg (show ¬ (v ≥ 2048 ∧ (v < 55296 ∨ 57344 ≤ v ∧ v ≤ 1114111)) from fun h => g3 h.2), ite_self, if_pos rfl]
            · rw [if_neg (by simp only [Bool.and_eq_true, decide_eq_true_eq, hb]; exact fun h => g2 h.2), if_neg (show ¬ (b0 / 16 = 14 ∧ (1 < l.length ∧ b1 / 64 = 2) ∧ 2 < l.length ∧ b2 / 64 = 2) by omega), if_pos rfl]
      · rw [if_pos (show 240 ≤ b0 by omega), if_pos (show 240 ≤ b0 by omega), if_neg (show ¬ b0 < 128 by omega),
          if_neg (show ¬ (b0 / 32 = 6 ∧ _) from fun h => by omega), if_neg (show ¬ (b0 / 16 = 14 ∧ _) from fun h => by omega)]
        by_cases g : l.length < 4
        · rw [if_pos g, if_neg (show ¬ (b0 / 8 = 30 ∧ (1 < l.length ∧ b1 / 64 = 2) ∧ (2 < l.length ∧ b2 / 64 = 2) ∧ 3 < l.length ∧ b3 / 64 = 2) by omega), if_pos rfl]
        · rw [if_neg g]
          generalize hv : ((b0 - 240) * 64 + b1 % 64) * 64 * 64 + b2 % 64 * 64 + b3 % 64 = v
          have hs : signB v = decide (v < 55296 ∨ 57344 ≤ v ∧ v ≤ 1114111) := by
            unfold signB; rw [Bool.eq_iff_iff]; simp only [Bool.and_eq_true, Bool.or_eq_true, decide_eq_true_eq]; omega
          rw [hs]
          by_cases e4 : b0 < 248
          · rw [show b0 % 8 * 262144 + b1 % 64 * 4096 + b2 % 64 * 64 + b3 % 64 = v by omega]
            by_cases g1 : v < 65536
            · have hb := to v 4 (by omega) (by rw [bytesL_len]; (repeat' split) <;> omega)
              rw [if_neg (by simp [hb]), if_neg (show ¬ (v ≥ 65536 ∧ (v < 55296 ∨ 57344 ≤ v ∧ v ≤ 1114111)) by omega), ite_self, if_pos rfl]
            · have hb : bytesL v = l.take 4 ↔ (b1 / 64 = 2 ∧ b2 / 64 = 2 ∧ b3 / 64 = 2) := by
                unfold bytesL
                rw [if_neg (show ¬ v < 128 by omega), if_neg (show ¬ v < 2048 by omega), if_neg g1, t4 (by omega) _ _ _ _ (by omega) (by omega) (by omega) (by omega)]
                omega
              by_cases g2 : b1 / 64 = 2 ∧ b2 / 64 = 2 ∧ b3 / 64 = 2
              · by_cases g3 : v < 55296 ∨ 57344 ≤ v ∧ v ≤ 1114111
                · rw [if_pos (by simp [hb.2 g2, g3]), if_pos (show b0 / 8 = 30 ∧ (1 < l.length ∧ b1 / 64 = 2) ∧ (2 < l.length ∧ b2 / 64 = 2) ∧ 3 < l.length ∧ b3 / 64 = 2 by omega), if_pos (show v ≥ 65536 ∧ (v < 55296 ∨ 57344 ≤ v ∧ v ≤ 1114111) from ⟨by omega, g3⟩), if_neg (show ¬ ((v, 4) = (65533, 1)) by simp only [Prod.mk.injEq]; omega)]
                · rw [if_neg (by simp only [Bool.and_eq_true, decide_eq_true_eq]; exact fun h => g3 h.1), if_neg (show ¬ (v ≥ 65536 ∧ (v < 55296 ∨ 57344 ≤ v ∧ v ≤ 1114111)) from fun h => g3 h.2), ite_self, if_pos rfl]
              · rw [if_neg (by simp only [Bool.and_eq_true, decide_eq_true_eq, hb]; exact fun h => g2 h.2), if_neg (show ¬ (b0 / 8 = 30 ∧ (1 < l.length ∧ b1 / 64 = 2) ∧ (2 < l.length ∧ b2 / 64 = 2) ∧ 3 < l.length ∧ b3 / 64 = 2) by omega), if_pos rfl]
          · rw [if_neg (by simp only [Bool.and_eq_true, decide_eq_true_eq]; omega), if_neg (show ¬ (b0 / 8 = 30 ∧ _) from fun h => by omega), if_pos rfl]
end Ln
