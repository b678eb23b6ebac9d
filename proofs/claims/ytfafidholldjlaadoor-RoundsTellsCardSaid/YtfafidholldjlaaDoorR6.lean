/- The document's answer for the rounds: Bytes. -/
import Derived.Test.YtfafidholldjlaaDoorR5
import Derived.Test.YtfafidholldjlaaDoorB4
set_option linter.unusedVariables false
set_option linter.unusedSimpArgs false
namespace Go.Proofs.YtfafidholldjlaaDoor
open Go.RowKit
theorem stFront (s : Sha.St) (t : Nat) (ht : t < 8) : front ⟨(stBytes s).toArray⟩ (4 * t) ++ ⟨(wordBytes ((words8 s).getD t 0)).toArray⟩ = front ⟨(stBytes s).toArray⟩ (4 * (t + 1)) := by
  apply ByteArray.ext
  rw [ByteArray.data_append]
  apply Array.toList_inj.1
  match t, ht with
  | 0, _ => rfl
  | 1, _ => rfl
  | 2, _ => rfl
  | 3, _ => rfl
  | 4, _ => rfl
  | 5, _ => rfl
  | 6, _ => rfl
  | 7, _ => rfl
set_option maxRecDepth 100000 in
theorem ref_bytes_bad (s0 s1 s2 s3 s4 s5 s6 s7 : Int) (hbad : ¬ Words8 s0 s1 s2 s3 s4 s5 s6 s7) (w : World) :
    Calls Tryd.prog 32 #[.agg #[.int .i64 s0, .int .i64 s1, .int .i64 s2, .int .i64 s3, .int .i64 s4, .int .i64 s5, .int .i64 s6, .int .i64 s7]] w fun e w' => e = .returned (.tuple #[.string ⟨#[]⟩, .int .i64 11]) ∧ Below w.heap.size w w' := by
  have Hb := Lib.hid hbad
  clear hbad
  go_enter Tryd.func32, Tryd.ntmps32
  go_wp2_with fail
  refine (ref_words s0 s1 s2 s3 s4 s5 s6 s7 false (words_false Hb.out) _).mono ?_
  rintro e w1 ⟨rfl, hw⟩
  have hb1 : Below w.heap.size w w1 := by
    rw [hw]; exact ((Below.refl _ w).alloc (Nat.le_refl _) _).alloc (by simp) _
  have HB1 := Lib.hid hb1
  clear hw hb1
  go_wp2_with fail
  exact bodyPost_ret (v := _) (by simp [results, Tryd.results32, go_sem]) rfl ⟨rfl, HB1.out⟩
set_option maxRecDepth 100000 in
set_option maxHeartbeats 1000000 in
theorem ref_bytes_ok (s : Sha.St) (hs : s.ok) (w : World) :
    Calls Tryd.prog 32 #[.agg #[.int .i64 s.a, .int .i64 s.b, .int .i64 s.c, .int .i64 s.d, .int .i64 s.e, .int .i64 s.f, .int .i64 s.g, .int .i64 s.h]] w fun e w' => e = .returned (.tuple #[.string ⟨(stBytes s).toArray⟩, .int .i64 0]) ∧ Below w.heap.size w w' := by
  have Hs := Lib.hid hs
  clear hs
  have hsz : (⟨(stBytes s).toArray⟩ : ByteArray).size = 32 := by
    show (stBytes s).toArray.size = 32
    simp [stBytes, wordBytes]
  obtain ⟨b, hb⟩ : ∃ b, (⟨(stBytes s).toArray⟩ : ByteArray) = b := ⟨_, rfl⟩
  have hst := fun t ht => stFront s t ht
  rw [hb] at hsz ⊢
  simp only [hb] at hst
  have HST := Lib.hid hst
  have HSZ := Lib.hid hsz
  clear hb hst hsz
  go_enter Tryd.func32, Tryd.ntmps32
  go_wp2_with fail
  refine (ref_words (s.a : Int) s.b s.c s.d s.e s.f s.g s.h true (words_true Hs.out) _).mono ?_
  rintro e w1 ⟨rfl, hw⟩
  have hd1 : w1.heap[w.heap.size]? = some (.cells #[.int .i64 s.a, .int .i64 s.b, .int .i64 s.c, .int .i64 s.d, .int .i64 s.e, .int .i64 s.f, .int .i64 s.g, .int .i64 s.h] 23 (0, 0)) := by
    rw [hw]; exact alloc_heap_old _ (alloc_heap_at _ _ _ rfl)
  have hb1 : Below w.heap.size w w1 := by
    rw [hw]; exact ((Below.refl _ w).alloc (Nat.le_refl _) _).alloc (by simp) _
  have HD1 := Lib.hid hd1
  have HB1 := Lib.hid hb1
  clear hw hd1 hb1
  go_wp2_with fail
  go_loopw [4, 5] (fun v i W => ∃ t : Nat, t ≤ 8 ∧ i = .int .i64 t ∧ v = .string (front b (4 * t)) ∧ Below w1.heap.size w1 W) (fun _ i _ => 8 - (intOf i).toNat)
  case atStart => exact ⟨0, by omega, rfl, by rw [front_zero], Below.refl _ _⟩
  case round =>
    obtain ⟨t, ht, rfl, rfl, hbl⟩ := hrel
    by_cases hlt : t < 8
    · have hdw := (hbl.block w.heap.size (lt_of_heap HD1.out)).trans HD1.out
      have c0 := cell_of hdw t
      rw [show (#[.int .i64 s.a, .int .i64 s.b, .int .i64 s.c, .int .i64 s.d, .int .i64 s.e, .int .i64 s.f, .int .i64 s.g, .int .i64 s.h] : Array Value) = row64 s from rfl, row64_get s t hlt] at c0
      have l0 := words8_lt Hs.out t hlt
      have hfw := HST.out t hlt
      have Hbl := Lib.hid hbl
      have HFW := Lib.hid hfw
      clear hbl hfw hdw
      obtain ⟨x, hx⟩ : ∃ x, (words8 s).getD t 0 = x := ⟨_, rfl⟩
      rw [hx] at c0 l0 HFW
      have Hx := Lib.hid hx
      clear hx
      have i0 : (0 : Int) ≤ (t : Int) := by omega
      have i1 : (t : Int) < 8 := by omega
      have hcv := conv_word (wr.alloc (.cells #[.int .u8 ((x : Int) / 16777216), .int .u8 ((x : Int) / 65536 % 256), .int .u8 ((x : Int) / 256 % 256), .int .u8 ((x : Int) % 256)] 5)).drew wr.heap.size x l0 (alloc_heap _ _)
      have hlw : w1.heap.size ≤ wr.heap.size := Hbl.out.size
      have hfs : ((front b (4 * t)).size : Int) ≤ 8388608 := by rw [front_size b _ (by have := HSZ.out; omega)]; omega
      have hws : ((⟨(wordBytes x).toArray⟩ : ByteArray).size : Int) ≤ 8388608 := by
        have e : (⟨(wordBytes x).toArray⟩ : ByteArray).size = 4 := rfl
        rw [e]; decide
      generalize (⟨(wordBytes x).toArray⟩ : ByteArray) = wb at hcv hws HFW
      generalize front b (4 * t) = fr at hfs HFW ⊢
      have hle : fr.size + wb.size ≤ 9223372036854775807 := by omega
      go_wp2_with fail
      go_region
      clear hcv
      go_wp2_with fail
      go_roundw
      case rel => exact ⟨t + 1, by omega, by go_num, by rw [HFW.out], (Hbl.out.alloc hlw _).drew⟩
      case measure => simp [intOf]; omega
    · obtain rfl : t = 8 := by omega
      have hfa : (front b (4 * 8)) = b := front_all b _ (by have := HSZ.out; omega)
      rw [hfa]
      have Hbl := Lib.hid hbl
      clear hfa hbl
      go_wp2_with fail
      exact bodyPost_ret (v := _) (by simp [results, Tryd.results32, go_sem]) rfl ⟨rfl, HB1.out.trans (Hbl.out.mono HB1.out.size)⟩
end Go.Proofs.YtfafidholldjlaaDoor
