/- Walks of the leaves: RotateLeft32, turned. -/
import Derived.Test.YtfafidholldjlaaDoorProg
import Derived.Test.YtfafidholldjlaaDoorSpec
import Derived.WalkKit
import Derived.Lib.Hide
set_option linter.unusedVariables false
set_option linter.unusedSimpArgs false
namespace Go.Proofs.YtfafidholldjlaaDoor
open Go.RowKit
theorem ret_int {k : IntKind} {a b : Int} (h : a = b) : Ending.returned (.int k a) = .returned (.int k b) := by rw [h]
theorem and31 (k : Nat) (hk : 1 ≤ k) (hk2 : k ≤ 31) : bits .and .u64 (IntKind.u64.wrap (-(k : Int))) 31 = 32 - (k : Int) := by
  rw [IntKind.wrap_u64, u64_and _ 31 (by omega) (by omega) (by omega) (by omega)]
  have e : ((-(k : Int)) % 18446744073709551616).toNat = 18446744073709551616 - k := by omega
  rw [e]
  have e2 : (31 : Int).toNat = 2 ^ 5 - 1 := rfl
  rw [e2, Nat.and_two_pow_sub_one_eq_mod]
  omega
theorem rotl_val (x k : Nat) (hx : x < 4294967296) (hk : 1 ≤ k) (hk2 : k ≤ 31) :
    bits BinOp.or IntKind.u32 ((x : Int) * 2 ^ (32 - k) % 4294967296) ((x : Int) / 2 ^ (32 - (32 - k))) = ((Sha.rr x k : Nat) : Int) := by
  have e2 : 32 - (32 - k) = k := by omega
  rw [e2]
  have e3 : ((x : Int) * 2 ^ (32 - k) % 4294967296) = ((x * 2 ^ (32 - k) % 4294967296 : Nat) : Int) := by simp
  have e4 : ((x : Int) / 2 ^ k) = ((x / 2 ^ k : Nat) : Int) := by simp
  rw [e3, e4, u32_or_nat _ _ (Nat.mod_lt _ (by decide)) (Nat.lt_of_le_of_lt (Nat.div_le_self _ _) hx), Sha.rr_or hx (by omega)]
theorem rotl_any (x k : Nat) (w : World) (hx : x < 4294967296) (hk : 1 ≤ k) (hk2 : k ≤ 31) :
    Calls Tryd.prog 94 #[.int .u32 (x : Int), .int .i64 (-(k : Int))] w fun e w' => e = .returned (.int .u32 (Sha.rr x k : Nat)) ∧ w = w' := by
  have h31 := and31 k hk hk2
  go_enter Tryd.func94, Tryd.ntmps94
  go_wp2
  go_ret
  exact ⟨ret_int (rotl_val x k hx hk hk2), rfl⟩
theorem turned_any (x : Nat) (ks : List Nat) (a : Addr) (c : Nat) (w : World) (hx : x < 4294967296) (hks : ∀ k ∈ ks, 1 ≤ k ∧ k ≤ 31) (hlen : ks.length ≤ 100)
    (hc : ∀ i (h : i < ks.length), w.cell? ⟨a.block, a.off + i, none⟩ = some (.int .i64 (ks[i] : Nat))) (ha : a.spot = none) :
    Calls Tryd.prog 83 #[.int .u32 (x : Int), .slice (some a) ks.length c] w fun e w' => e = .returned (.int .u32 (Sha.turned x ks : Nat)) ∧ w = w' := by
  obtain ⟨ab, ao, sp⟩ := a
  obtain rfl : sp = none := ha
  have Hc := Lib.hid hc
  have Hk := Lib.hid hks
  clear hc hks
  go_enter Tryd.func83, Tryd.ntmps83
  go_wp2
  go_loop [5, 10] (fun o i => ∃ k : Nat, k ≤ ks.length ∧ i = .int .i64 k ∧ o = .int .u32 (Sha.turned x (ks.take k) : Nat)) (fun _ i => ks.length - (intOf i).toNat)
  case atStart => exact ⟨0, Nat.zero_le _, rfl, rfl⟩
  case round =>
    obtain ⟨k, hk, rfl, rfl⟩ := hrel
    by_cases hlt : k < ks.length
    · have hcell := Hc.out k hlt
      have hb := Hk.out ks[k] (List.getElem_mem hlt)
      obtain ⟨hb1, hb2⟩ := hb
      have hsn : Hid (Sha.turned x (ks.take (k + 1)) = Sha.turned x (ks.take k) ^^^ Sha.rr x ks[k]) := by
        rw [List.take_succ_eq_append_getElem hlt]; exact Sha.turned_snoc _ _ _
      have hl1 : Sha.turned x (ks.take k) < 4294967296 := Sha.turned_lt hx (fun y hy => Hk.out y (List.mem_of_mem_take hy))
      have hl2 : Sha.rr x ks[k] < 4294967296 := Sha.rr_lt hx (by omega) hb1
      go_wp2_with (go_at_call 94; refine (rotl_any x _ _ hx hb1 hb2).mono ?_; rintro e w' ⟨rfl, rfl⟩)
      go_round
      case rel => exact ⟨k + 1, by omega, by go_num, by rw [hsn.out, u32_xor_nat _ _ hl1 hl2]⟩
      case measure => simp [intOf]; omega
    · obtain rfl : k = ks.length := by omega
      go_wp2
      go_ret
      exact ⟨rfl, rfl⟩
end Go.Proofs.YtfafidholldjlaaDoor
