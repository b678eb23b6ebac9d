/- Texts held against each other. -/
import Derived.Test.YtfafidholldjlaaDoorZM
set_option linter.unusedVariables false
set_option linter.unusedSimpArgs false
namespace Go.Proofs.YtfafidholldjlaaDoor
open Go.RowKit
theorem i64_or_word (a b : Nat) (ha : a < 4294967296) (hb : b < 4294967296) : bits .or .i64 (a : Int) (b : Int) = ((a ||| b : Nat) : Int) := by
  have hx : a ||| b < 2 ^ 32 := Nat.or_lt_two_pow (by omega) (by omega)
  show IntKind.i64.wrap ((BitVec.ofInt 64 (a : Int) ||| BitVec.ofInt 64 (b : Int)).toNat : Int) = _
  rw [BitVec.toNat_or, word64 a ha, word64 b hb]
  exact IntWalk.i64_in _ (by omega)
theorem byte8 (a : Nat) (ha : a < 256) : (BitVec.ofInt 8 (a : Int)).toNat = a := by
  rw [BitVec.ofInt_natCast, BitVec.toNat_ofNat]; exact Nat.mod_eq_of_lt (by omega)
theorem u8_xor_byte (a b : Nat) (ha : a < 256) (hb : b < 256) : bits .xor .u8 (a : Int) (b : Int) = ((a ^^^ b : Nat) : Int) := by
  have hx : a ^^^ b < 2 ^ 8 := Nat.xor_lt_two_pow (by omega) (by omega)
  show IntKind.u8.wrap ((BitVec.ofInt 8 (a : Int) ^^^ BitVec.ofInt 8 (b : Int)).toNat : Int) = _
  rw [BitVec.toNat_xor, byte8 a ha, byte8 b hb, IntKind.wrap_u8]
  omega
theorem xor_zero_iff (a b : Nat) : a ^^^ b = 0 ↔ a = b := by
  constructor
  · intro h
    have : (a ^^^ b) ^^^ b = 0 ^^^ b := by rw [h]
    rwa [Nat.xor_assoc, Nat.xor_self, Nat.xor_zero, Nat.zero_xor] at this
  · intro h
    rw [h, Nat.xor_self]
theorem or_zero_iff (a b : Nat) : a ||| b = 0 ↔ a = 0 ∧ b = 0 := Nat.or_eq_zero_iff
theorem same_bytes (a b : ByteArray) : (a.size = b.size ∧ ∀ j, j < max a.size b.size → byteAt a j = byteAt b j) ↔ a = b := by
  constructor
  · rintro ⟨hs, hb⟩
    apply ByteArray.ext
    apply Array.toList_inj.1
    apply List.ext_getElem
    · simpa using hs
    · intro i h1 h2
      have h1' : i < a.size := by simpa using h1
      have := hb i (by omega)
      unfold byteAt at this
      rw [List.getD_eq_getElem?_getD, List.getD_eq_getElem?_getD, List.getElem?_eq_getElem h1, List.getElem?_eq_getElem h2] at this
      exact UInt8.toNat_inj.1 this
  · rintro rfl
    exact ⟨rfl, fun _ _ => rfl⟩
theorem byteAt_past (s : ByteArray) (i : Nat) (h : s.size ≤ i) : byteAt s i = 0 := by
  unfold byteAt
  rw [List.getD_eq_getElem?_getD, List.getElem?_eq_none (by simpa using h)]
  rfl
theorem byteAt_get (s : ByteArray) (i : Nat) (h : i < s.size) : (s[i]'h).toNat = byteAt s i := by
  have h' : i < s.data.toList.length := by simpa using h
  unfold byteAt
  rw [List.getD_eq_getElem?_getD, List.getElem?_eq_getElem h']
  simp
  rfl
set_option maxRecDepth 100000 in
set_option maxHeartbeats 1000000 in
theorem equal_any (a b : ByteArray) (ha : a.size ≤ 1000000) (hb : b.size ≤ 1000000) (w : World) : Calls Tryd.prog 59 #[.string a, .string b] w fun e w' => e = .returned (.bool (decide (a = b))) ∧ Below w.heap.size w w' := by
  have x0 := i64_xor_word a.size b.size (by omega) (by omega)
  have hx0 : a.size ^^^ b.size < 4294967296 := Nat.xor_lt_two_pow (n := 32) (by omega) (by omega)
  have hz0 := xor_zero_iff a.size b.size
  obtain ⟨R, hR⟩ : ∃ R, decide (a = b) = R := ⟨_, rfl⟩
  rw [hR]
  have HR := Lib.hid hR
  clear hR
  generalize a.size ^^^ b.size = o0 at x0 hx0 hz0
  have la : (a.size : Int) ≤ 1000000 := by omega
  have lb : (b.size : Int) ≤ 1000000 := by omega
  have HR' := HR
  by_cases hs : (a.size : Int) < (b.size : Int)
  case' pos => obtain ⟨N, hN⟩ : ∃ N, b.size = N := ⟨_, rfl⟩
  case' neg => obtain ⟨N, hN⟩ : ∃ N, a.size = N := ⟨_, rfl⟩
  all_goals
    have hmx : max a.size b.size = N := by omega
    have HN := Lib.hid hN
    have HMX := Lib.hid hmx
    have X0 := Lib.hid x0
    clear hN hmx
    go_enter Tryd.func59, Tryd.ntmps59
    go_wp2_with fail
    go_loopw [5, 19] (fun v i W => ∃ t o : Nat, t ≤ N ∧ i = .int .i64 t ∧ v = .int .i64 o ∧ o < 4294967296 ∧ (o = 0 ↔ (a.size = b.size ∧ ∀ j, j < t → byteAt a j = byteAt b j)) ∧ Below w.heap.size w W) (fun _ i _ => N - (intOf i).toNat)
    case atStart => exact ⟨0, o0, by omega, rfl, rfl, hx0, by rw [hz0]; exact ⟨fun h => ⟨h, fun j hj => absurd hj (by omega)⟩, fun h => h.1⟩, Below.refl _ _⟩
    case round =>
      obtain ⟨t, o, ht, rfl, rfl, ho, hoi, hbl⟩ := hrel
      have HBL := Lib.hid hbl
      by_cases hlt : t < N
      · have hX' := byteAt_lt a t
        have hY' := byteAt_lt b t
        obtain ⟨X, hX⟩ : ∃ x, byteAt a t = x := ⟨_, rfl⟩
        obtain ⟨Y, hY⟩ : ∃ x, byteAt b t = x := ⟨_, rfl⟩
        rw [hX] at hX'
        rw [hY] at hY'
        have hxz := u8_xor_byte X Y hX' hY'
        have hz := xor_zero_iff X Y
        have hZ : X ^^^ Y < 256 := Nat.xor_lt_two_pow (n := 8) hX' hY'
        obtain ⟨Z, hZe⟩ : ∃ z, X ^^^ Y = z := ⟨_, rfl⟩
        rw [hZe] at hxz hz hZ
        have hor := i64_or_word o Z ho (by omega)
        have hO : o ||| Z < 4294967296 := Nat.or_lt_two_pow (n := 32) ho (by omega)
        have hoz := or_zero_iff o Z
        obtain ⟨O, hOe⟩ : ∃ z, o ||| Z = z := ⟨_, rfl⟩
        rw [hOe] at hor hO hoz
        have hoi' : O = 0 ↔ (a.size = b.size ∧ ∀ j, j < t + 1 → byteAt a j = byteAt b j) := by
          rw [hoz, hoi, hz, ← hX, ← hY]
          constructor
          · rintro ⟨⟨h1, h2⟩, h3⟩
            refine ⟨h1, fun j hj => ?_⟩
            by_cases hjt : j < t
            · exact h2 j hjt
            · obtain rfl : j = t := by omega
              exact h3
          · rintro ⟨h1, h2⟩
            exact ⟨⟨h1, fun j hj => h2 j (by omega)⟩, h2 t (by omega)⟩
        have HOI := Lib.hid hoi'
        have hN := HN.out
        have hmx := HMX.out
        have iz : (Z : Int) < 256 := by omega
        have iz0 : (0 : Int) ≤ (Z : Int) := by omega
        clear hoi hoi' hbl hz hoz hz0 x0 hx0 HR'
        by_cases ca : t < a.size
        · by_cases cb : t < b.size
          · first
              | exact absurd hlt (by omega)
              | (
                  have ia : (t : Int) < (a.size : Int) := by omega
                  have qa := byteAt_get a t ca
                  rw [hX] at qa
                  have ib : (t : Int) < (b.size : Int) := by omega
                  have qb := byteAt_get b t cb
                  rw [hY] at qb
                  have hxor : bits .xor .u8 (X : Int) (Y : Int) = (Z : Int) := hxz
                  clear hN hmx
                  go_wp2_with fail
                  go_roundw
                  case rel => exact ⟨t + 1, O, by omega, by go_num, rfl, hO, HOI.out, HBL.out⟩
                  case measure => simp [intOf]; omega)
          · first
              | exact absurd hlt (by omega)
              | (
                  have ey : Y = 0 := by rw [← hY]; exact byteAt_past b t (by omega)
                  subst ey
                  have ia : (t : Int) < (a.size : Int) := by omega
                  have qa := byteAt_get a t ca
                  rw [hX] at qa
                  have ib : ¬ ((t : Int) < (b.size : Int)) := by omega
                  have hxor : bits .xor .u8 (X : Int) 0 = (Z : Int) := hxz
                  clear hN hmx
                  go_wp2_with fail
                  go_roundw
                  case rel => exact ⟨t + 1, O, by omega, by go_num, rfl, hO, HOI.out, HBL.out⟩
                  case measure => simp [intOf]; omega)
        · by_cases cb : t < b.size
          · first
              | exact absurd hlt (by omega)
              | (
                  have ex : X = 0 := by rw [← hX]; exact byteAt_past a t (by omega)
                  subst ex
                  have ia : ¬ ((t : Int) < (a.size : Int)) := by omega
                  have ib : (t : Int) < (b.size : Int) := by omega
                  have qb := byteAt_get b t cb
                  rw [hY] at qb
                  have hxor : bits .xor .u8 0 (Y : Int) = (Z : Int) := hxz
                  clear hN hmx
                  go_wp2_with fail
                  go_roundw
                  case rel => exact ⟨t + 1, O, by omega, by go_num, rfl, hO, HOI.out, HBL.out⟩
                  case measure => simp [intOf]; omega)
          · exact absurd hlt (by omega)
      · obtain rfl : t = N := by omega
        have hN := HN.out
        have hmx := HMX.out
        have ia : ¬ ((t : Int) < (a.size : Int)) := by omega
        have ib : ¬ ((t : Int) < (b.size : Int)) := by omega
        have hfin : ((o : Int) == 0) = R := by
          rw [← HR.out]
          by_cases hab : a = b
          · have h0 : o = 0 := hoi.2 (by rw [← hmx]; exact (same_bytes a b).2 hab)
            rw [h0, decide_eq_true hab]
            rfl
          · have h0 : o ≠ 0 := fun h => hab ((same_bytes a b).1 (by rw [hmx]; exact hoi.1 h))
            rw [decide_eq_false hab, beq_eq_false_iff_ne]
            omega
        clear hN hmx
        go_wp2_with fail
        go_ret
        exact ⟨rfl, HBL.out⟩
end Go.Proofs.YtfafidholldjlaaDoor
