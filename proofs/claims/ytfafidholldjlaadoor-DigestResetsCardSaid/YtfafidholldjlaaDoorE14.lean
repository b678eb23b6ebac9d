/- The first three hundred bytes of a text; a long text. -/
import Derived.Test.YtfafidholldjlaaDoorE13
import Derived.Test.YtfafidholldjlaaDoorB4
set_option linter.unusedVariables false
set_option linter.unusedSimpArgs false
namespace Go.Proofs.YtfafidholldjlaaDoor
open Go.RowKit
theorem dcut_any (s : ByteArray) (hs : s.size ≤ maxLen) (w : World) : Calls Tryd.prog 37 #[.string s] w fun e w' => e = .returned (.string (front s 300)) ∧ w = w' := by
  have h0 : (s.size : Int) ≤ 9223372036854775807 := by unfold maxLen at hs; omega
  by_cases h : 300 < (s.size : Int)
  · have e : s.extract 0 300 = front s 300 := by
      apply ByteArray.ext
      apply Array.toList_inj.1
      simp [front]
    have E := Lib.hid e
    clear e
    go_enter Tryd.func37, Tryd.ntmps37
    go_wp2_with fail
    rw [E.out]
    go_ret
    exact ⟨rfl, rfl⟩
  · have e : front s 300 = s := front_all s 300 (by omega)
    have E := Lib.hid e
    clear e
    have h2 : (s.size : Int) ≤ 300 := by omega
    go_enter Tryd.func37, Tryd.ntmps37
    go_wp2_with fail
    go_ret
    exact ⟨by rw [E.out]; rfl, rfl⟩
theorem front_300 (s : ByteArray) : (front s 300).size ≤ 300 := by
  show (s.data.toList.take 300).toArray.size ≤ 300
  simp
  omega
def zeroText (n : Nat) : ByteArray := ⟨(List.replicate n (0 : UInt8)).toArray⟩
theorem zeroText_size (n : Nat) : (zeroText n).size = n := by
  show (List.replicate n (0 : UInt8)).toArray.size = n
  simp
theorem conv_zero (n : Nat) (W : World) (g : Nat) (h : W.heap[g]? = some (.cells (List.replicate n (Value.int .u8 0)).toArray 5 (0, 0))) :
    (convert 40 9 (.slice (some ⟨g, 0, none⟩) n n)).run Tryd.prog W = .ok (.string (zeroText n)) W := by
  have hx := run_convert_bytes_back (P := Tryd.prog) W 40 9 5 ⟨g, 0, none⟩ n (List.replicate n (0 : UInt8)) Tryd.underlying40 Tryd.underlying5 Tryd.underlying9 (fun j hj => by
    rw [Addr.add_lit, Nat.zero_add, cell_of h j]
    have hj' : j < n := by simpa using hj
    simp [hj'])
  rw [List.length_replicate] at hx
  exact hx
theorem long_any (w : World) : Calls Tryd.prog 50 #[] w fun e w' => e = .returned (.string (zeroText 100001)) ∧ Below w.heap.size w w' := by
  have hmk := make_bytes 100001 (by decide) 100001 (by rfl)
  have hcv := conv_zero 100001 (w.alloc (.cells (List.replicate 100001 (Value.int .u8 0)).toArray 5)) w.heap.size (alloc_heap _ _)
  generalize (List.replicate 100001 (Value.int .u8 0)).toArray = M at hmk hcv
  generalize zeroText 100001 = z at hcv ⊢
  go_enter Tryd.func50, Tryd.ntmps50
  go_wp2_with fail
  go_ret
  exact ⟨rfl, (Below.refl _ _).alloc (Nat.le_refl _) _⟩
end Go.Proofs.YtfafidholldjlaaDoor
