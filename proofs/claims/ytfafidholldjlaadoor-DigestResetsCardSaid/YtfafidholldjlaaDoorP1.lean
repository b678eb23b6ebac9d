/- A text by its words: the first sixteen words of a schedule tell the block; no program in sight. -/
import Derived.Test.YtfafidholldjlaaDoorA7
import Derived.Test.YtfafidholldjlaaDoorA13
set_option linter.unusedVariables false
set_option linter.unusedSimpArgs false
namespace Go.Proofs.YtfafidholldjlaaDoor
/-- The first n bytes of a text. -/
def front (s : ByteArray) (n : Nat) : ByteArray := ⟨(s.data.toList.take n).toArray⟩
theorem front_zero (s : ByteArray) : front s 0 = ⟨#[]⟩ := by simp [front]
theorem front_all (s : ByteArray) (n : Nat) (h : s.size ≤ n) : front s n = s := by
  unfold front
  rw [List.take_of_length_le (by simpa using h)]
theorem front_size (s : ByteArray) (n : Nat) (h : n ≤ s.size) : (front s n).size = n := by
  show (s.data.toList.take n).toArray.size = n
  have h' : n ≤ s.data.size := h
  simp
  omega
theorem take_byte (s : ByteArray) (i : Nat) (h : i < s.size) : s.data.toList.take (i + 1) = s.data.toList.take i ++ [UInt8.ofNat (byteAt s i)] := by
  have h' : i < s.data.toList.length := by simpa using h
  rw [List.take_succ_eq_append_getElem h']
  unfold byteAt
  rw [List.getD_eq_getElem?_getD, List.getElem?_eq_getElem h']
  simp
theorem be_bytes (b : Nat → Nat) (hb : ∀ i, b i < 256) (t : Nat) : wordBytes (Sha.be b t) = [UInt8.ofNat (b (4 * t)), UInt8.ofNat (b (4 * t + 1)), UInt8.ofNat (b (4 * t + 2)), UInt8.ofNat (b (4 * t + 3))] := by
  have h0 := hb (4 * t); have h1 := hb (4 * t + 1); have h2 := hb (4 * t + 2); have h3 := hb (4 * t + 3)
  unfold wordBytes Sha.be
  simp only [List.cons.injEq, and_true]
  refine ⟨?_, ?_, ?_, ?_⟩ <;> (apply UInt8.toNat_inj.1; simp only [UInt8.toNat_ofNat']; omega)
theorem front_word (s : ByteArray) (t : Nat) (ht : t < 16) (hs : s.size = 64) : front s (4 * t) ++ ⟨(wordBytes (Sha.word (byteAt s) t)).toArray⟩ = front s (4 * (t + 1)) := by
  have e : Sha.word (byteAt s) t = Sha.be (byteAt s) t := by unfold Sha.word; rw [if_pos ht]
  rw [e, be_bytes _ (byteAt_lt s)]
  have e4 : 4 * (t + 1) = 4 * t + 1 + 1 + 1 + 1 := by omega
  apply ByteArray.ext
  rw [ByteArray.data_append]
  unfold front
  rw [e4, take_byte s _ (by omega), take_byte s _ (by omega), take_byte s _ (by omega), take_byte s _ (by omega)]
  simp
end Go.Proofs.YtfafidholldjlaaDoor
