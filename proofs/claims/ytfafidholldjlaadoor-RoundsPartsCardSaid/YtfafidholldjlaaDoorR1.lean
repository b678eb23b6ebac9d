/- The document's answer for the rounds, its leaves: xor, turn. -/
import Derived.Test.YtfafidholldjlaaDoorA1
import Derived.Test.YtfafidholldjlaaDoorSpecB
import Derived.WalkKit
import Derived.IntWalk
import Derived.Lib.Hide
import Derived.Deep.QuietTactic
import Derived.BigQuiet
set_option linter.unusedVariables false
set_option linter.unusedSimpArgs false
namespace Go.Proofs.YtfafidholldjlaaDoor
open Go.RowKit
theorem word64 (a : Nat) (ha : a < 4294967296) : (BitVec.ofInt 64 (a : Int)).toNat = a := by
  rw [BitVec.ofInt_natCast, BitVec.toNat_ofNat]; exact Nat.mod_eq_of_lt (by omega)
theorem i64_xor_word (a b : Nat) (ha : a < 4294967296) (hb : b < 4294967296) : bits .xor .i64 (a : Int) (b : Int) = ((a ^^^ b : Nat) : Int) := by
  have hx : a ^^^ b < 2 ^ 32 := Nat.xor_lt_two_pow (by omega) (by omega)
  show IntKind.i64.wrap ((BitVec.ofInt 64 (a : Int) ^^^ BitVec.ofInt 64 (b : Int)).toNat : Int) = _
  rw [BitVec.toNat_xor, word64 a ha, word64 b hb]
  exact IntWalk.i64_in _ (by omega)
theorem i64_and_word (a b : Nat) (ha : a < 4294967296) (hb : b < 4294967296) : bits .and .i64 (a : Int) (b : Int) = ((a &&& b : Nat) : Int) := by
  have hx : a &&& b < 2 ^ 32 := Nat.and_lt_two_pow _ (by omega)
  show IntKind.i64.wrap ((BitVec.ofInt 64 (a : Int) &&& BitVec.ofInt 64 (b : Int)).toNat : Int) = _
  rw [BitVec.toNat_and, word64 a ha, word64 b hb]
  exact IntWalk.i64_in _ (by omega)
theorem ref_xor (a b c : Nat) (ha : a < 4294967296) (hb : b < 4294967296) (hc : c < 4294967296) (w : World) :
    Calls Tryd.prog 63 #[.int .i64 (a : Int), .int .i64 (b : Int), .int .i64 (c : Int)] w fun e w' => e = .returned (.int .i64 (((a ^^^ b) ^^^ c : Nat) : Int)) ∧ w = w' := by
  have h1 : Hid (bits .xor .i64 (bits .xor .i64 (a : Int) (b : Int)) (c : Int) = (((a ^^^ b) ^^^ c : Nat) : Int)) := by
    refine Lib.hid ?_
    rw [i64_xor_word a b ha hb, i64_xor_word _ c (Nat.xor_lt_two_pow (n := 32) ha hb) hc]
  clear ha hb hc
  go_enter Tryd.func63, Tryd.ntmps63
  go_wp2
  go_ret
  exact ⟨ret_int h1.out, rfl⟩
theorem turn_val (x n : Nat) (hx : x < 4294967296) (h1 : 1 ≤ n) (h2 : n ≤ 31) :
    wrap64 ((x : Int) / 2 ^ n + (wrap64 ((x : Int) * wrap64 (2 ^ (32 - n)))).tmod 4294967296) = ((Sha.rr x n : Nat) : Int) := by
  have hp : 2 ^ (32 - n) ≤ 2 ^ 31 := Nat.pow_le_pow_right (by decide) (by omega)
  have e0 : ((2 : Int) ^ (32 - n)) = ((2 ^ (32 - n) : Nat) : Int) := by simp
  have e1 : ((2 : Int) ^ n) = ((2 ^ n : Nat) : Int) := by simp
  rw [e0, e1]
  have hr := Sha.rr_lt hx (show n ≤ 32 by omega) h1
  unfold Sha.rr at hr ⊢
  generalize 2 ^ (32 - n) = p at hp hr ⊢
  generalize 2 ^ n = q at hr ⊢
  have hm : x * p ≤ 4294967295 * 2147483648 := Nat.mul_le_mul (by omega) hp
  have e2 : ((x : Int) * (p : Int)) = ((x * p : Nat) : Int) := by simp
  rw [IntWalk.wrap64_in (p : Int) (by omega), e2]
  generalize x * p = y at hm hr ⊢
  have e3 : ((x : Int) / (q : Int)) = ((x / q : Nat) : Int) := by simp
  rw [IntWalk.wrap64_in (y : Int) (by omega), e3]
  generalize x / q = z at hr ⊢
  have e4 : (y : Int).tmod 4294967296 = ((y % 4294967296 : Nat) : Int) := by rw [Int.tmod_eq_emod_of_nonneg (by omega)]; simp
  rw [e4, IntWalk.wrap64_in _ (by omega)]
  omega
theorem ref_turn (x n : Nat) (hx : x < 4294967296) (h1 : 1 ≤ n) (h2 : n ≤ 31) (w : World) :
    Calls Tryd.prog 64 #[.int .i64 (x : Int), .int .i64 (n : Int)] w fun e w' => e = .returned (.int .i64 ((Sha.rr x n : Nat) : Int)) ∧ ∃ m, w' = w.drewN m := by
  have s0 : (0 : Int) ≤ 32 - (n : Int) := by omega
  have s1 : IntKind.i64.wrap (32 - (n : Int)) = 32 - (n : Int) := IntWalk.i64_in _ (by omega)
  have s2 : (32 - (n : Int)).toNat = 32 - n := by omega
  have s3 : (n : Int).toNat = n := by omega
  go_enter Tryd.func64, Tryd.ntmps64
  go_wp2_with fail
  go_quiet (fail)
  go_wp2_with fail
  go_ret
  exact ⟨ret_int (turn_val x n hx h1 h2), _, rfl⟩
end Go.Proofs.YtfafidholldjlaaDoor
