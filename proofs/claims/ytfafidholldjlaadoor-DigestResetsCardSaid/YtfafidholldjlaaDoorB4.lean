/- The law RoundsWhole: what a call of it answers, for every text; and the first seventy bytes of a text. -/
import Derived.Test.YtfafidholldjlaaDoorB1
import Derived.Test.YtfafidholldjlaaDoorC1
import Derived.Test.YtfafidholldjlaaDoorP1
import Derived.BigRegion
set_option linter.unusedVariables false
set_option linter.unusedSimpArgs false
namespace Go.Proofs.YtfafidholldjlaaDoor
open Go.RowKit
theorem cut_any (s : ByteArray) (hs : s.size ≤ maxLen) (w : World) : Calls Tryd.prog 24 #[.string s] w fun e w' => e = .returned (.string (front s 70)) ∧ w = w' := by
  have h0 : (s.size : Int) ≤ 9223372036854775807 := by unfold maxLen at hs; omega
  by_cases h : 70 < (s.size : Int)
  · have e : s.extract 0 70 = front s 70 := by
      apply ByteArray.ext
      apply Array.toList_inj.1
      simp [front]
    have E := Lib.hid e
    clear e
    go_enter Tryd.func24, Tryd.ntmps24
    go_wp2_with fail
    rw [E.out]
    go_ret
    exact ⟨rfl, rfl⟩
  · have e : front s 70 = s := front_all s 70 (by omega)
    have E := Lib.hid e
    clear e
    have h2 : (s.size : Int) ≤ 70 := by omega
    go_enter Tryd.func24, Tryd.ntmps24
    go_wp2_with fail
    go_ret
    exact ⟨by rw [E.out]; rfl, rfl⟩
theorem front_le (s : ByteArray) (n : Nat) (hs : s.size ≤ maxLen) : (front s n).size ≤ maxLen := by
  unfold maxLen at *
  show (s.data.toList.take n).toArray.size ≤ _
  have h' : s.data.size ≤ _ := hs
  simp
  omega
set_option maxRecDepth 100000 in
set_option maxHeartbeats 1000000 in
theorem whole_bad (s : ByteArray) (hs : s.size ≤ maxLen) (hn : (front s 70).size ≠ 64) {B : Nat} {aw ab : Addr} {w : World} (h : Glob B aw ab w) :
    Calls Tryd.prog 7 #[.string s] w fun e w' => e = .returned (.bool true) ∧ Below w.heap.size w w' := by
  have H := Lib.hid h
  have Hs := Lib.hid hs
  have Hl := Lib.hid (front_le s 70 hs)
  have Hn := Lib.hid hn
  have hb : (((front s 70).size : Int) != 64) = true := by simp; omega
  clear h hs hn
  go_enter Tryd.func7, Tryd.ntmps7
  go_wp2_with fail
  refine (shown_any H.out).mono ?_
  rintro e w1 ⟨rfl, hb1⟩
  have HB1 := Lib.hid hb1
  clear hb1
  go_wp2_with fail
  refine (cut_any s Hs.out _).mono ?_
  rintro e w2 ⟨rfl, rfl⟩
  go_wp2_with fail
  refine (schedule_bad (H.out.below (HB1.out.mono H.out.size)) _ Hn.out).mono ?_
  rintro e w2 ⟨rfl, rfl⟩
  go_wp2_with fail
  go_ret
  exact ⟨rfl, HB1.out⟩
theorem conv_word (W : World) (g : Nat) (x : Nat) (hx : x < 4294967296) (h : W.heap[g]? = some (.cells #[.int .u8 ((x : Int) / 16777216), .int .u8 ((x : Int) / 65536 % 256), .int .u8 ((x : Int) / 256 % 256), .int .u8 ((x : Int) % 256)] 5 (0, 0))) :
    (convert 40 9 (.slice (some ⟨g, 0, none⟩) 4 4)).run Tryd.prog W = .ok (.string ⟨(wordBytes x).toArray⟩) W := by
  have hw := wordCells x
  have e : ((x : Int) / 16777216 % 256) = (x : Int) / 16777216 := by omega
  rw [e] at hw
  refine run_convert_bytes_back (P := Tryd.prog) W 40 9 5 ⟨g, 0, none⟩ 4 (wordBytes x) Tryd.underlying40 Tryd.underlying5 Tryd.underlying9 (fun j hj => ?_)
  rw [Addr.add_lit, Nat.zero_add, cell_of h j]
  have h4 : (byteCells (wordBytes x))[j]? = some (.int .u8 (((wordBytes x)[j].toNat : Nat) : Int)) := by simp [byteCells, List.getElem?_eq_getElem hj]
  rw [← h4, hw]
  simp
set_option maxRecDepth 100000 in
set_option maxHeartbeats 1000000 in
theorem whole_ok (s : ByteArray) (hs : s.size ≤ maxLen) (hn : (front s 70).size = 64) {B : Nat} {aw ab : Addr} {w : World} (h : Glob B aw ab w) :
    Calls Tryd.prog 7 #[.string s] w fun e w' => e = .returned (.bool true) ∧ Below w.heap.size w w' := by
  have H := Lib.hid h
  have Hs := Lib.hid hs
  have Hn := Lib.hid hn
  clear h hs hn
  go_enter Tryd.func7, Tryd.ntmps7
  go_wp2_with fail
  refine (shown_any H.out).mono ?_
  rintro e w1 ⟨rfl, hb1⟩
  have HB1 := Lib.hid hb1
  clear hb1
  go_wp2_with fail
  refine (cut_any s Hs.out _).mono ?_
  rintro e w2 ⟨rfl, rfl⟩
  obtain ⟨b, hb⟩ : ∃ b, front s 70 = b := ⟨_, rfl⟩
  rw [hb] at Hn ⊢
  clear hb
  go_wp2_with fail
  refine (schedule_ok (H.out.below (HB1.out.mono H.out.size)) b Hn.out).mono ?_
  rintro e w2 ⟨g, cap, rfl, hg1, hg2, hc, hb2⟩
  have HC := Lib.hid hc
  have HB2 := Lib.hid (HB1.out.trans (hb2.mono HB1.out.size))
  have hsz := hb2.size
  clear hc hb2
  go_wp2_with fail
  go_loopw [6, 7] (fun v i W => ∃ t : Nat, t ≤ 16 ∧ i = .int .i64 t ∧ v = .string (front b (4 * t)) ∧ Below w2.heap.size w2 W) (fun _ i _ => 16 - (intOf i).toNat)
  case atStart => exact ⟨0, by omega, rfl, by rw [front_zero], Below.refl _ _⟩
  case round =>
    obtain ⟨t, ht, rfl, rfl, hbl⟩ := hrel
    by_cases hlt : t < 16
    · have c0 : wr.cell? ⟨g, t, none⟩ = some (.int .i64 (Sha.word (byteAt b) t : Nat)) := (hbl.cell (p := ⟨g, t, none⟩) hg2).trans (HC.out t (by omega))
      have l0 := Sha.word_lt (byteAt b) (byteAt_lt b) t
      have hfw := front_word b t hlt Hn.out
      have Hbl := Lib.hid hbl
      have HFW := Lib.hid hfw
      clear hbl hfw
      obtain ⟨x, hx⟩ : ∃ x, Sha.word (byteAt b) t = x := ⟨_, rfl⟩
      rw [hx] at c0 l0 HFW
      have Hx := Lib.hid hx
      clear hx
      have i0 : (0 : Int) ≤ (t : Int) := by omega
      have i1 : (t : Int) < 64 := by omega
      have hcv := conv_word (wr.alloc (.cells #[.int .u8 ((x : Int) / 16777216), .int .u8 ((x : Int) / 65536 % 256), .int .u8 ((x : Int) / 256 % 256), .int .u8 ((x : Int) % 256)] 5)).drew wr.heap.size x l0 (alloc_heap _ _)
      have hlw : w2.heap.size ≤ wr.heap.size := Hbl.out.size
      have hfs : ((front b (4 * t)).size : Int) ≤ 8388608 := by rw [front_size b _ (by have := Hn.out; omega)]; omega
      have hws : ((⟨(wordBytes x).toArray⟩ : ByteArray).size : Int) ≤ 8388608 := by
        have e : (⟨(wordBytes x).toArray⟩ : ByteArray).size = 4 := rfl
        rw [e]; decide
      generalize (⟨(wordBytes x).toArray⟩ : ByteArray) = wb at hcv hws HFW
      generalize front b (4 * t) = fr at hfs HFW ⊢
      have hle : fr.size + wb.size ≤ 9223372036854775807 := by omega
      go_wp2_with fail
      go_region
      clear hcv
      go_wp2_with fail
      go_roundw
      case rel => exact ⟨t + 1, by omega, by go_num, by rw [HFW.out], (Hbl.out.alloc hlw _).drew⟩
      case measure => simp [intOf]; omega
    · obtain rfl : t = 16 := by omega
      have hfa : (front b (4 * 16)) = b := front_all b _ (by have := Hn.out; omega)
      rw [hfa]
      have Hbl := Lib.hid hbl
      clear hfa hbl
      go_wp2_with fail
      go_ret
      exact ⟨rfl, HB2.out.trans (Hbl.out.mono HB2.out.size)⟩
/-- EVERY TEXT. -/
theorem whole_law (s : ByteArray) (hs : s.size ≤ maxLen) {B : Nat} {aw ab : Addr} {w : World} (h : Glob B aw ab w) :
    Calls Tryd.prog 7 #[.string s] w fun e w' => e = .returned (.bool true) ∧ Below w.heap.size w w' := by
  by_cases hn : (front s 70).size = 64
  · exact whole_ok s hs hn h
  · exact whole_bad s hs hn h
end Go.Proofs.YtfafidholldjlaaDoor
