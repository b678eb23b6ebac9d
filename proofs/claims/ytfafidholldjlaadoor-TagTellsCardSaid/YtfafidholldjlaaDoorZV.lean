/- Keys, each byte mixed with another one. -/
import Derived.Test.YtfafidholldjlaaDoorZT
import Derived.Test.YtfafidholldjlaaDoorZM
import Derived.Test.YtfafidholldjlaaDoorZO
set_option linter.unusedVariables false
set_option linter.unusedSimpArgs false
namespace Go.Proofs.YtfafidholldjlaaDoor
open Go.RowKit
/-- A key's first bytes mixed with a byte. -/
def mixTo (l : List UInt8) (c : UInt8) (t : Nat) : List UInt8 := (l.take t).map (· ^^^ c) ++ l.drop t
theorem mixTo_length (l : List UInt8) (c : UInt8) (t : Nat) : (mixTo l c t).length = l.length := by simp [mixTo]; omega
theorem mixTo_get (l : List UInt8) (c : UInt8) (t : Nat) (ht : t < l.length) : (mixTo l c t)[t]? = some l[t] := by
  unfold mixTo
  rw [List.getElem?_append_right (by simp; omega)]
  simp
  rw [Nat.min_eq_left (by omega)]
  simp [List.getElem?_eq_getElem ht]
theorem mixTo_set (l : List UInt8) (c : UInt8) (t : Nat) (ht : t < l.length) : (mixTo l c t).set t (l[t] ^^^ c) = mixTo l c (t + 1) := by
  apply List.ext_getElem?
  intro i
  have hl : (l.take t).length = t := by simp; omega
  rw [List.getElem?_set]
  by_cases hi : t = i
  · subst hi
    rw [if_pos rfl, if_pos (by rw [mixTo_length]; exact ht)]
    unfold mixTo
    rw [List.getElem?_append_left (by simp; omega)]
    simp [List.getElem?_take, List.getElem?_eq_getElem ht]
  · rw [if_neg hi]
    unfold mixTo
    by_cases h1 : i < t
    · rw [List.getElem?_append_left (by simp; omega), List.getElem?_append_left (by simp; omega)]
      simp [List.getElem?_take, h1, Nat.lt_succ_of_lt h1]
    · rw [List.getElem?_append_right (by simp; omega), List.getElem?_append_right (by simp; omega)]
      simp
      congr 1
      omega
theorem byteCells_set (l : List UInt8) (t : Nat) (x : UInt8) : (byteCells l).toArray.setIfInBounds t (.int .u8 (x.toNat : Int)) = (byteCells (l.set t x)).toArray := by
  simp [byteCells, List.map_set]
set_option maxRecDepth 100000 in
set_option maxHeartbeats 1000000 in
theorem kmixed_any (l : List UInt8) (hl : l.length = 64) (c : UInt8) (w : World) : Calls Tryd.prog 88 #[.agg (byteCells l).toArray, .int .u8 (c.toNat : Int)] w fun e w' => e = .returned (.string ⟨(l.map (· ^^^ c)).toArray⟩) ∧ Below w.heap.size w w' := by
  obtain ⟨L, hL⟩ : ∃ L, (byteCells l).toArray = L := ⟨_, rfl⟩
  have hLs : L.size = 64 := by rw [← hL]; simp [byteCells, hl]
  rw [hL]
  obtain ⟨Z, hZ⟩ : ∃ Z, (⟨(l.map (· ^^^ c)).toArray⟩ : ByteArray) = Z := ⟨_, rfl⟩
  rw [hZ]
  have HZ := Lib.hid hZ
  clear hZ
  go_enter Tryd.func88, Tryd.ntmps88
  go_wp2_with fail
  go_loopw [6] (fun i W => ∃ t : Nat, t ≤ 64 ∧ i = .int .i64 t ∧ W.heap[w.heap.size]? = some (.cells (byteCells (mixTo l c t)).toArray 97 (0, 0)) ∧ Below w.heap.size w W) (fun i _ => 64 - (intOf i).toNat)
  case atStart => exact ⟨0, by omega, rfl, by rw [show mixTo l c 0 = l from by simp [mixTo], hL]; exact alloc_heap_at _ _ _ rfl, (Below.refl _ _).alloc (Nat.le_refl _) _⟩
  case round =>
    obtain ⟨t, ht, rfl, hrow, hbl⟩ := hrel
    have HBL := Lib.hid hbl
    by_cases hlt : t < 64
    · have htl : t < l.length := by omega
      have hc := cell_of hrow t
      have hf := frozen_of hrow t
      have hg : (byteCells (mixTo l c t)).toArray[t]? = some (.int .u8 ((l[t]).toNat : Int)) := by
        rw [List.getElem?_toArray]
        simp [byteCells, mixTo_get l c t htl]
      rw [hg] at hc
      have hset := byteCells_set (mixTo l c t) t (l[t] ^^^ c)
      rw [mixTo_set l c t htl] at hset
      have hx := u8_xor_byte (l[t]).toNat c.toNat (UInt8.toNat_lt _) (UInt8.toNat_lt _)
      rw [← UInt8.toNat_xor] at hx
      have HROW := Lib.hid hrow
      have HSET := Lib.hid hset
      have HX : Hid (((l[t] ^^^ c).toNat : Int) < 256) := Lib.hid (by have := UInt8.toNat_lt (l[t] ^^^ c); omega)
      clear hrow hset hbl hg hL
      generalize hy : (l[t]).toNat = y at hc hx
      generalize hz : (l[t] ^^^ c).toNat = z at hx HSET HX
      have i0 : (t : Int) < 64 := by omega
      have i1 : (0 : Int) ≤ (t : Int) := by omega
      clear hy hz
      go_wp2_with fail
      go_roundw
      case rel =>
        refine ⟨t + 1, by omega, by go_num, ?_, HBL.out.setCell (Nat.le_refl _) _⟩
        rw [← HSET.out]
        exact setCell_heap HROW.out t _
      case measure => simp [intOf]; omega
    · obtain rfl : t = 64 := by omega
      have hm : mixTo l c 64 = l.map (· ^^^ c) := by unfold mixTo; rw [List.take_of_length_le (by omega), List.drop_of_length_le (by omega), List.append_nil]
      rw [hm] at hrow
      have hml : (l.map (· ^^^ c)).length = 64 := by rw [List.length_map, hl]
      have hZ := HZ.out
      generalize l.map (· ^^^ c) = q at hrow hml hZ
      have hcv := run_convert_bytes_back (P := Tryd.prog) wr 40 9 5 ⟨w.heap.size, 0, none⟩ 64 q Tryd.underlying40 Tryd.underlying5 Tryd.underlying9 (fun j hj => by
        rw [Addr.add_lit, Nat.zero_add, cell_of hrow j, List.getElem?_toArray]
        simp [byteCells, List.getElem?_eq_getElem hj])
      rw [hml] at hcv
      rw [hZ] at hcv
      clear hrow hbl hm hL hZ
      have e64 : ((64 : Nat) : Int) = 64 := rfl
      rw [e64]
      go_wp2_with fail
      go_ret
      exact ⟨rfl, HBL.out⟩
end Go.Proofs.YtfafidholldjlaaDoor
