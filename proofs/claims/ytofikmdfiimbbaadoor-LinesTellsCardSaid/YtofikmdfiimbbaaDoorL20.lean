/- A sign's bytes. -/
import Derived.Test.YtofikmdfiimbbaaDoorGb
import Derived.Test.YtofikmdfiimbbaaDoorPi
set_option linter.unusedVariables false
set_option linter.unusedSimpArgs false
namespace Go.Proofs.YtofikmdfiimbbaaDoor
open Go.RowKit
theorem conv_new (W : World) (l : List UInt8) (cs : Array Value) (hcs : cs.toList = l.map fun b => Value.int .u8 (b.toNat : Int)) (n : Nat) (hn : l.length = n) : (convert 57 9 (.slice (some ⟨W.heap.size, 0, none⟩) n n)).run Tryd.prog (W.alloc (.cells cs 5)) = .ok (.string ⟨l.toArray⟩) (W.alloc (.cells cs 5)) := by
  have hx := run_convert_bytes_back (P := Tryd.prog) (W.alloc (.cells cs 5)) 57 9 5 ⟨W.heap.size, 0, none⟩ n l Tryd.underlying57 Tryd.underlying5 Tryd.underlying9 (fun j hj => by
    rw [Addr.add_lit, Nat.zero_add, cell_of (alloc_heap W _) j, ← Array.getElem?_toList, hcs]
    simp [List.getElem?_eq_getElem hj])
  rw [hn] at hx
  exact hx
theorem by8_nat (n : Nat) (h : n < 256) : ((Ln.by8 n).toNat : Int) = (n : Int) := by
  have := (Ln.by8_eq n h (Ln.by8 n)).1 rfl
  omega
set_option maxRecDepth 100000 in
set_option maxHeartbeats 2000000 in
theorem bytes_any (n : Nat) (hn : n ≤ 1114111) (w : World) : Calls Tryd.prog 62 #[.int .i64 (n : Int)] w fun e w' => e = .returned (.string ⟨(Ln.bytesL n).toArray⟩) ∧ Below w.heap.size w w' := by
  unfold Ln.bytesL
  by_cases h1 : n < 128
  · have i1 : (n : Int) < 128 := by omega
    rw [if_pos h1]
    have u1 : IntKind.u8.wrap (n : Int) = (n : Int) := IntWalk.u8_in _ (by omega)
    have hcv := conv_new w [Ln.by8 n] #[.int .u8 (n : Int)] (by simp [by8_nat n (by omega)]) 1 rfl
    go_enter Tryd.func62, Tryd.ntmps62
    go_wp2_with fail
    go_ret
    exact ⟨rfl, (Below.refl _ _).alloc (Nat.le_refl _) _⟩
  · have i1 : ¬ (n : Int) < 128 := by omega
    rw [if_neg h1]
    have ud : ∀ k : Nat, (n : Int) / (k : Int) = ((n / k : Nat) : Int) := fun k => rfl
    by_cases h2 : n < 2048
    · have i2 : (n : Int) < 2048 := by omega
      rw [if_pos h2]
      have hcv := conv_new w [Ln.by8 (192 + n / 64), Ln.by8 (128 + n % 64)] #[.int .u8 (192 + (n : Int) / 64), .int .u8 (128 + (n : Int) % 64)] (by simp [by8_nat (192 + n / 64) (by omega), by8_nat (128 + n % 64) (by omega)]) 2 rfl
      go_enter Tryd.func62, Tryd.ntmps62
      go_wp2_with fail
      go_ret
      exact ⟨rfl, (Below.refl _ _).alloc (Nat.le_refl _) _⟩
    · have i2 : ¬ (n : Int) < 2048 := by omega
      rw [if_neg h2]
      by_cases h3 : n < 65536
      · have i3 : (n : Int) < 65536 := by omega
        rw [if_pos h3]
        have hcv := conv_new w [Ln.by8 (224 + n / 4096), Ln.by8 (128 + n / 64 % 64), Ln.by8 (128 + n % 64)] #[.int .u8 (224 + (n : Int) / 4096), .int .u8 (128 + (n : Int) / 64 % 64), .int .u8 (128 + (n : Int) % 64)] (by simp [by8_nat (224 + n / 4096) (by omega), by8_nat (128 + n / 64 % 64) (by omega), by8_nat (128 + n % 64) (by omega)]) 3 rfl
        go_enter Tryd.func62, Tryd.ntmps62
        go_wp2_with fail
        go_ret
        exact ⟨rfl, (Below.refl _ _).alloc (Nat.le_refl _) _⟩
      · have i3 : ¬ (n : Int) < 65536 := by omega
        rw [if_neg h3]
        have hcv := conv_new w [Ln.by8 (240 + n / 262144), Ln.by8 (128 + n / 4096 % 64), Ln.by8 (128 + n / 64 % 64), Ln.by8 (128 + n % 64)] #[.int .u8 (240 + (n : Int) / 262144), .int .u8 (128 + (n : Int) / 4096 % 64), .int .u8 (128 + (n : Int) / 64 % 64), .int .u8 (128 + (n : Int) % 64)] (by simp [by8_nat (240 + n / 262144) (by omega), by8_nat (128 + n / 4096 % 64) (by omega), by8_nat (128 + n / 64 % 64) (by omega), by8_nat (128 + n % 64) (by omega)]) 4 rfl
        go_enter Tryd.func62, Tryd.ntmps62
        go_wp2_with fail
        go_ret
        exact ⟨rfl, (Below.refl _ _).alloc (Nat.le_refl _) _⟩
end Go.Proofs.YtofikmdfiimbbaaDoor
