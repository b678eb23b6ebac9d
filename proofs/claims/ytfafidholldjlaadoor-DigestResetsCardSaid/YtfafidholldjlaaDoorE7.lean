/- Small functions of package digest: New, Len, Clone. -/
import Derived.Test.YtfafidholldjlaaDoorE5
import Derived.Test.YtfafidholldjlaaDoorB1
import Derived.Lib.BufferWrite
import Derived.Lib.UnsafeStr
set_option linter.unusedVariables false
set_option linter.unusedSimpArgs false
namespace Go.Proofs.YtfafidholldjlaaDoor
open Go.RowKit
theorem new_any (w : World) : Calls Tryd.prog 42 #[] w fun e w' => ∃ h, e = .returned (.pointer (some ⟨h, 0, none⟩)) ∧ w.heap.size ≤ h ∧ w'.heap[h]? = some (.cells (hrow (.slice none 0 0) Sha.St.first 0) 93 (0, 0)) ∧ Below w.heap.size w w' := by
  go_enter Tryd.func42, Tryd.ntmps42
  go_wp2_with fail
  refine (first_any _).mono ?_
  rintro e w1 ⟨rfl, hb⟩
  have HB := Lib.hid hb
  clear hb
  go_wp2_with fail
  go_ret
  exact ⟨w1.heap.size, rfl, HB.out.size, alloc_heap _ _, HB.out.alloc HB.out.size _⟩
theorem len_any (h : Nat) (v : Value) (s : Sha.St) (n : Int) (w : World) (hh : w.heap[h]? = some (.cells (hrow v s n) 93 (0, 0))) : Calls Tryd.prog 45 #[.pointer (some ⟨h, 0, none⟩)] w fun e w' => e = .returned (.int .i64 n) ∧ w = w' := by
  have c9 : w.cell? ⟨h, 9, none⟩ = some (.int .i64 n) := cell_of hh 9
  clear hh
  go_enter Tryd.func45, Tryd.ntmps45
  go_wp2_with fail
  go_ret
  exact ⟨rfl, rfl⟩
set_option maxRecDepth 100000 in
set_option maxHeartbeats 1000000 in
theorem clone85 (s : ByteArray) (h0 : 0 < s.size) (hlim : s.size ≤ 1000000) (w : World) : Calls Tryd.prog 85 #[.string s] w fun e w' => e = .returned (.string s) ∧ Below w.heap.size w w' := by
  have hne0 : ¬ s.size = 0 := by omega
  have hmk := make_bytes s.size hlim (s.size : Int) rfl
  have hml : (List.replicate s.size (Value.int .u8 0)).toArray.size = s.size := by simp
  obtain ⟨M, hM⟩ : ∃ M, (List.replicate s.size (Value.int .u8 0)).toArray = M := ⟨_, rfl⟩
  rw [hM] at hml
  simp only [hM] at hmk
  have hcp := Lib.run_copy_row_string (P := Tryd.prog) (w.alloc (.cells M 5)) 40 9 3 5 w.heap.size 0 s.size s.size s M 5 Tryd.underlying40 size5 (heap_alloc_new w _) (Nat.le_refl _) (by omega)
  obtain ⟨Y, hY⟩ : ∃ Y, Y = (M.toList.take 0 ++ Lib.byteCells s.data.toList ++ M.toList.drop (0 + s.size)).toArray := ⟨_, rfl⟩
  rw [← hY] at hcp
  have hYl : Y.toList = Lib.byteCells s.data.toList := by
    rw [hY, List.toList_toArray, List.take_zero, List.nil_append, List.drop_of_length_le (by rw [Array.length_toList]; omega), List.append_nil]
  have hYs : Y.size = s.size := by rw [← Array.length_toList, hYl, Lib.byteCells_length, ← Lib.size_eq]
  have hgY : ((w.alloc (.cells M 5)).setRow w.heap.size Y).heap[w.heap.size]? = some (.cells Y 5 (0, 0)) := setRow_heap _ _ M _ 5 (0, 0) (heap_alloc_new w _)
  have hne : s.data.toList ≠ [] := fun e => hne0 (by rw [Lib.size_eq, e]; rfl)
  have hco : Tryd.prog.cellsOf 5 = 1 := by kernel_rfl
  have hUS := Lib.run_unsafeString_row (P := Tryd.prog) ((w.alloc (.cells M 5)).setRow w.heap.size Y) 144 3 9 5 Tryd.underlying144 hco w.heap.size Y.size (by unfold World.shape?; rw [hgY]) s.data.toList hne (by rw [← Lib.size_eq]; omega) (by rw [← Lib.size_eq]; omega)
    (fun j x hx => Lib.cells_of_row hgY Y.size j _ (by rw [List.take_of_length_le (by rw [Array.length_toList]; exact Nat.le_refl _), hYl]; simp [Lib.byteCells, hx]))
  rw [← Lib.size_eq] at hUS
  clear hY hM
  go_enter Tryd.func85, Tryd.ntmps85
  go_wp2
  go_ret
  have hb1 : Below w.heap.size w (w.alloc (.cells M 5)) := (Below.refl _ w).alloc (Nat.le_refl _) _
  have hb2 : Below w.heap.size (w.alloc (.cells M 5)) ((w.alloc (.cells M 5)).setRow w.heap.size Y) := ⟨rfl, rfl, rfl, by simp, fun k hk => setRow_other _ _ _ _ (by omega)⟩
  exact ⟨rfl, Lib.below_freeze (hb1.trans hb2) (p := ⟨w.heap.size, 0, none⟩) (Nat.le_refl _) _⟩
theorem clone_any (b : ByteArray) (h0 : 0 < b.size) (hb : b.size ≤ 1000000) (w : World) : Calls Tryd.prog 73 #[.string b] w fun e w' => e = .returned (.string b) ∧ Below w.heap.size w w' := by
  go_enter Tryd.func73, Tryd.ntmps73
  go_wp2_with fail
  refine (clone85 b h0 hb _).mono ?_
  rintro e w1 ⟨rfl, hb1⟩
  have HB := Lib.hid hb1
  clear hb1
  go_wp2_with fail
  go_ret
  exact ⟨rfl, HB.out⟩
end Go.Proofs.YtfafidholldjlaaDoor
