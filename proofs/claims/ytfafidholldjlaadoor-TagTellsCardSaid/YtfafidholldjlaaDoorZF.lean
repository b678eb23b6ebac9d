/- The law RoundsWhole: what a call of it answers, for every text; and the first seventy bytes of a text. -/
import Derived.Test.YtfafidholldjlaaDoorZD
import Derived.Test.YtfafidholldjlaaDoorZC
import Derived.Test.YtfafidholldjlaaDoorZB
import Derived.Test.YtfafidholldjlaaDoorZE
import Derived.BigRegion
set_option linter.unusedVariables false
set_option linter.unusedSimpArgs false
namespace Go.Proofs.YtfafidholldjlaaDoor
open Go.RowKit
theorem cut_any (s : ByteArray) (hs : s.size ≤ maxLen) (w : World) : Calls Tryd.prog 24 #[.string s] w fun e w' => e = .returned (.string (front s 70)) ∧ w = w' := by
  have h0 : (s.size : Int) ≤ 9223372036854775807 := by unfold maxLen at hs; omega
  by_cases h : 70 < (s.size : Int)
  · have e : s.extract 0 70 = front s 70 := by
      apply ByteArray.ext
      apply Array.toList_inj.1
      simp [front]
    have E := Lib.hid e
    clear e
    go_enter Tryd.func24, Tryd.ntmps24
    go_wp2_with fail
    rw [E.out]
    go_ret
    exact ⟨rfl, rfl⟩
  · have e : front s 70 = s := front_all s 70 (by omega)
    have E := Lib.hid e
    clear e
    have h2 : (s.size : Int) ≤ 70 := by omega
    go_enter Tryd.func24, Tryd.ntmps24
    go_wp2_with fail
    go_ret
    exact ⟨by rw [E.out]; rfl, rfl⟩
theorem front_le (s : ByteArray) (n : Nat) (hs : s.size ≤ maxLen) : (front s n).size ≤ maxLen := by
  unfold maxLen at *
  show (s.data.toList.take n).toArray.size ≤ _
  have h' : s.data.size ≤ _ := hs
  simp
  omega
set_option maxRecDepth 100000 in
set_option maxHeartbeats 1000000 in
theorem whole_bad (s : ByteArray) (hs : s.size ≤ maxLen) (hn : (front s 70).size ≠ 64) {B : Nat} {aw ab : Addr} {w : World} (h : Glob B aw ab w) :
    Calls Tryd.prog 7 #[.string s] w fun e w' => e = .returned (.bool true) ∧ Below w.heap.size w w' := by
  have H := Lib.hid h
  have Hs := Lib.hid hs
  have Hl := Lib.hid (front_le s 70 hs)
  have Hn := Lib.hid hn
  have hb : (((front s 70).size : Int) != 64) = true := by simp; omega
  clear h hs hn
  go_enter Tryd.func7, Tryd.ntmps7
  go_wp2_with fail
  refine (shown_any H.out).mono ?_
  rintro e w1 ⟨rfl, hb1⟩
  have HB1 := Lib.hid hb1
  clear hb1
  go_wp2_with fail
  refine (cut_any s Hs.out _).mono ?_
  rintro e w2 ⟨rfl, rfl⟩
  go_wp2_with fail
  refine (schedule_bad (H.out.below (HB1.out.mono H.out.size)) _ Hn.out).mono ?_
  rintro e w2 ⟨rfl, rfl⟩
  go_wp2_with fail
  go_ret
  exact ⟨rfl, HB1.out⟩
theorem conv_word (W : World) (g : Nat) (x : Nat) (hx : x < 4294967296) (h : W.heap[g]? = some (.cells #[.int .u8 ((x : Int) / 16777216), .int .u8 ((x : Int) / 65536 % 256), .int .u8 ((x : Int) / 256 % 256), .int .u8 ((x : Int) % 256)] 5 (0, 0))) :
    (convert 40 9 (.slice (some ⟨g, 0, none⟩) 4 4)).run Tryd.prog W = .ok (.string ⟨(wordBytes x).toArray⟩) W := by
  have hw := wordCells x
  have e : ((x : Int) / 16777216 % 256) = (x : Int) / 16777216 := by omega
  rw [e] at hw
  refine run_convert_bytes_back (P := Tryd.prog) W 40 9 5 ⟨g, 0, none⟩ 4 (wordBytes x) Tryd.underlying40 Tryd.underlying5 Tryd.underlying9 (fun j hj => ?_)
  rw [Addr.add_lit, Nat.zero_add, cell_of h j]
  have h4 : (byteCells (wordBytes x))[j]? = some (.int .u8 (((wordBytes x)[j].toNat : Nat) : Int)) := by simp [byteCells, List.getElem?_eq_getElem hj]
  rw [← h4, hw]
  simp
set_option maxRecDepth 100000 in
set_option maxHeartbeats 1000000 in
theorem whole_ok (s : ByteArray) (hs : s.size ≤ maxLen) (hn : (front s 70).size = 64) {B : Nat} {aw ab : Addr} {w : World} (h : Glob B aw ab w) :
    Calls Tryd.prog 7 #[.string s] w fun e w' => e = .returned (.bool true) ∧ Below w.heap.size w w' := by
  have H := Lib.hid h
  have Hs := Lib.hid hs
  have Hn := Lib.hid hn
  clear h hs hn
  go_enter Tryd.func7, Tryd.ntmps7
  go_wp2_with fail
  refine (shown_any H.out).mono ?_
  rintro e w1 ⟨rfl, hb1⟩
  have HB1 := Lib.hid hb1
  clear hb1
  go_wp2_with fail
  refine (cut_any s Hs.out _).mono ?_
  rintro e w2 ⟨rfl, rfl⟩
  obtain ⟨b, hb⟩ : ∃ b, front s 70 = b := ⟨_, rfl⟩
  rw [hb] at Hn ⊢
  clear hb
  go_wp2_with fail
  refine (schedule_ok (H.out.below (HB1.out.mono H.out.size)) b Hn.out).mono ?_
  rintro e w2 ⟨g, cap, rfl, hg1, hg2, hc, hb2⟩
  have HC := Lib.hid hc
  have HB2 := Lib.hid (HB1.out.trans (hb2.mono HB1.out.size))
  have hsz := hb2.size
  clear hc hb2
  go_wp2_with fail
  go_loopw [6, 7] (fun v i W => ∃ t : Nat, t ≤ 16 ∧ i = .int .i64 t ∧ v = .string (front b (4 * t)) ∧ Below w2.heap.size w2 W) (fun _ i _ => 16 - (intOf i).toNat)
  case atStart => exact ⟨0, by omega, rfl, by rw [front_zero], Below.refl _ _⟩
  case round =>
    obtain ⟨t, ht, rfl, rfl, hbl⟩ := hrel
    by_cases hlt : t < 16
    · have c0 : wr.cell? ⟨g, t, none⟩ = some (.int .i64 (Sha.word (byteAt b) t : Nat)) := (hbl.cell (p := ⟨g, t, none⟩) hg2).trans (HC.out t (by omega))
      have l0 := Sha.word_lt (byteAt b) (byteAt_lt b) t
      have hfw := front_word b t hlt Hn.out
      have Hbl := Lib.hid hbl
      have HFW := Lib.hid hfw
      clear hbl hfw
      obtain ⟨x, hx⟩ : ∃ x, Sha.word (byteAt b) t = x := ⟨_, rfl⟩
      rw [hx] at c0 l0 HFW
      have Hx := Lib.hid hx
      clear hx
      have i0 : (0 : Int) ≤ (t : Int) := by omega
      have i1 : (t : Int) < 64 := by omega
      have hcv := conv_word (wr.alloc (.cells #[.int .u8 ((x : Int) / 16777216), .int .u8 ((x : Int) / 65536 % 256), .int .u8 ((x : Int) / 256 % 256), .int .u8 ((x : Int) % 256)] 5)).drew wr.heap.size x l0 (alloc_heap _ _)
      have hlw : w2.heap.size ≤ wr.heap.size := Hbl.out.size
      have hfs : ((front b (4 * t)).size : Int) ≤ 8388608 := by rw [front_size b _ (by have := Hn.out; omega)]; omega
      have hws : ((⟨(wordBytes x).toArray⟩ : ByteArray).size : Int) ≤ 8388608 := by
        have e : (⟨(wordBytes x).toArray⟩ : ByteArray).size = 4 := rfl
        rw [e]; decide
      generalize (⟨(wordBytes x).toArray⟩ : ByteArray) = wb at hcv hws HFW
      generalize front b (4 * t) = fr at hfs HFW ⊢
      have hle : fr.size + wb.size ≤ 9223372036854775807 := by omega
      go_wp2_with fail
      go_region
      clear hcv
      go_wp2_with fail
      go_roundw
      case rel => exact ⟨t + 1, by omega, by go_num, by rw [HFW.out], (Hbl.out.alloc hlw _).drew⟩
      case measure => simp [intOf]; omega
    · obtain rfl : t = 16 := by omega
      have hfa : (front b (4 * 16)) = b := front_all b _ (by have := Hn.out; omega)
      rw [hfa]
      have Hbl := Lib.hid hbl
      clear hfa hbl
      go_wp2_with fail
      go_ret
      exact ⟨rfl, HB2.out.trans (Hbl.out.mono HB2.out.size)⟩
/-- EVERY TEXT. -/
theorem whole_law (s : ByteArray) (hs : s.size ≤ maxLen) {B : Nat} {aw ab : Addr} {w : World} (h : Glob B aw ab w) :
    Calls Tryd.prog 7 #[.string s] w fun e w' => e = .returned (.bool true) ∧ Below w.heap.size w w' := by
  by_cases hn : (front s 70).size = 64
  · exact whole_ok s hs hn h
  · exact whole_bad s hs hn h
end Go.Proofs.YtfafidholldjlaaDoor
/- The document's answer for the rounds: Round. -/
set_option linter.unusedVariables false
set_option linter.unusedSimpArgs false
namespace Go.Proofs.YtfafidholldjlaaDoor
open Go.RowKit
theorem results28 (tmps : Array Value) (w : World) (b : Nat) (v0 v1 v2 v3 v4 v5 v6 v7 e : Value) (h4 : tmps.getD 6 undef = .pointer (some ⟨b, 0, none⟩)) (h5 : tmps.getD 7 undef = e) (hb : w.heap[b]? = some (.cells #[v0, v1, v2, v3, v4, v5, v6, v7] 23 (0, 0))) :
    (results Tryd.f28 tmps).run Tryd.prog w = .ok (.tuple #[.agg #[v0, v1, v2, v3, v4, v5, v6, v7], e]) w := by
  have c0 : w.cell? ⟨b, 0, none⟩ = some v0 := cell_of hb 0
  have c1 : w.cell? ⟨b, 1, none⟩ = some v1 := cell_of hb 1
  have c2 : w.cell? ⟨b, 2, none⟩ = some v2 := cell_of hb 2
  have c3 : w.cell? ⟨b, 3, none⟩ = some v3 := cell_of hb 3
  have c4 : w.cell? ⟨b, 4, none⟩ = some v4 := cell_of hb 4
  have c5 : w.cell? ⟨b, 5, none⟩ = some v5 := cell_of hb 5
  have c6 : w.cell? ⟨b, 6, none⟩ = some v6 := cell_of hb 6
  have c7 : w.cell? ⟨b, 7, none⟩ = some v7 := cell_of hb 7
  simp only [Array.getD_eq_getD_getElem?] at h4 h5
  simp [results, Tryd.results28, go_sem, h4, h5, c0, c1, c2, c3, c4, c5, c6, c7]
theorem words8_st {s0 s1 s2 s3 s4 s5 s6 s7 : Int} (h : Words8 s0 s1 s2 s3 s4 s5 s6 s7) : ∃ s : Sha.St, s.ok ∧ s0 = s.a ∧ s1 = s.b ∧ s2 = s.c ∧ s3 = s.d ∧ s4 = s.e ∧ s5 = s.f ∧ s6 = s.g ∧ s7 = s.h := by
  obtain ⟨h0, h1, h2, h3, h4, h5, h6, h7⟩ := h
  refine ⟨⟨s0.toNat, s1.toNat, s2.toNat, s3.toNat, s4.toNat, s5.toNat, s6.toNat, s7.toNat⟩, ⟨?_, ?_, ?_, ?_, ?_, ?_, ?_, ?_⟩, ?_, ?_, ?_, ?_, ?_, ?_, ?_, ?_⟩ <;> (simp only []; omega)
theorem words_true {s : Sha.St} (hs : s.ok) : true = true ↔ ∀ j, j < 8 → inWord (([(s.a : Int), s.b, s.c, s.d, s.e, s.f, s.g, s.h] : List Int).getD j 0) := by
  obtain ⟨l0, l1, l2, l3, l4, l5, l6, l7⟩ := hs
  refine ⟨fun _ j hj => ?_, fun _ => rfl⟩
  unfold inWord
  match j, hj with
  | 0, _ => simp; omega
  | 1, _ => simp; omega
  | 2, _ => simp; omega
  | 3, _ => simp; omega
  | 4, _ => simp; omega
  | 5, _ => simp; omega
  | 6, _ => simp; omega
  | 7, _ => simp; omega
theorem words_false {s0 s1 s2 s3 s4 s5 s6 s7 : Int} (hb : ¬ Words8 s0 s1 s2 s3 s4 s5 s6 s7) : false = true ↔ ∀ j, j < 8 → inWord (([s0, s1, s2, s3, s4, s5, s6, s7] : List Int).getD j 0) := by
  refine ⟨fun h => (Bool.false_ne_true h).elim, fun h => (hb ?_).elim⟩
  have h0 := h 0 (by decide)
  have h1 := h 1 (by decide)
  have h2 := h 2 (by decide)
  have h3 := h 3 (by decide)
  have h4 := h 4 (by decide)
  have h5 := h 5 (by decide)
  have h6 := h 6 (by decide)
  have h7 := h 7 (by decide)
  exact ⟨h0, h1, h2, h3, h4, h5, h6, h7⟩
theorem K_all : Sha.K.all (· < 4294967296) = true := by decide
theorem K_lt (i : Nat) (hi : i < 64) : Sha.K.getD i 0 < 4294967296 := by
  have h := List.all_eq_true.1 K_all (Sha.K[i]'hi) (List.getElem_mem _)
  rw [List.getD_eq_getElem?_getD, List.getElem?_eq_getElem (show i < Sha.K.length from hi)]
  exact of_decide_eq_true h
theorem ch64 (e f g : Nat) (he : e < 4294967296) (hf : f < 4294967296) (hg : g < 4294967296) :
    bits BinOp.xor IntKind.i64 (bits BinOp.and IntKind.i64 e f) (bits BinOp.and IntKind.i64 (4294967295 - (e : Int)) g) = ((Sha.ch e f g : Nat) : Int) := by
  have h1 : e &&& f < 4294967296 := Nat.and_lt_two_pow (n := 32) _ hf
  have h2 : (4294967295 - e) &&& g < 4294967296 := Nat.and_lt_two_pow (n := 32) _ hg
  have e1 : (4294967295 - (e : Int)) = ((4294967295 - e : Nat) : Int) := by omega
  rw [e1, i64_and_word _ _ he hf, i64_and_word _ _ (by omega) hg, i64_xor_word _ _ h1 h2]
  rfl
theorem ch_lt (e f g : Nat) (hf : f < 4294967296) (hg : g < 4294967296) : Sha.ch e f g < 4294967296 := word_xor2 _ _ (Nat.and_lt_two_pow (n := 32) _ hf) (Nat.and_lt_two_pow (n := 32) _ hg)
theorem ref_xor_ints (a b c : Nat) (ai bi ci : Int) (h1 : ai = (a : Int)) (h2 : bi = (b : Int)) (h : ci = (c : Int)) (ha : a < 4294967296) (hb : b < 4294967296) (hc : c < 4294967296) (w : World) :
    Calls Tryd.prog 63 #[.int .i64 ai, .int .i64 bi, .int .i64 ci] w fun e w' => e = .returned (.int .i64 (((a ^^^ b) ^^^ c : Nat) : Int)) ∧ w = w' := by
  subst h h1 h2
  exact ref_xor a b c ha hb hc w
set_option maxRecDepth 100000 in
theorem ref_round_word (s0 s1 s2 s3 s4 s5 s6 s7 i x : Int) (hbad : ¬ Words8 s0 s1 s2 s3 s4 s5 s6 s7) (w : World) :
    Calls Tryd.prog 28 #[.agg #[.int .i64 s0, .int .i64 s1, .int .i64 s2, .int .i64 s3, .int .i64 s4, .int .i64 s5, .int .i64 s6, .int .i64 s7], .int .i64 i, .int .i64 x] w fun e w' => e = .returned (.tuple #[.agg #[.int .i64 0, .int .i64 0, .int .i64 0, .int .i64 0, .int .i64 0, .int .i64 0, .int .i64 0, .int .i64 0], .int .i64 11]) ∧ Below w.heap.size w w' := by
  have Hb := Lib.hid hbad
  clear hbad
  go_enter Tryd.func28, Tryd.ntmps28
  go_wp2_with fail
  refine (ref_words s0 s1 s2 s3 s4 s5 s6 s7 false (words_false Hb.out) _).mono ?_
  rintro e w1 ⟨rfl, hw⟩
  have hc1 : w1.heap[w.heap.size + 1]? = some (.cells #[.int .i64 0, .int .i64 0, .int .i64 0, .int .i64 0, .int .i64 0, .int .i64 0, .int .i64 0, .int .i64 0] 23 (0, 0)) := by
    rw [hw]; exact alloc_heap_old _ (alloc_heap_at _ _ _ (by simp))
  have hb1 : Below w.heap.size w w1 := by
    rw [hw]; exact ((((Below.refl _ w).alloc (Nat.le_refl _) _).alloc (by simp) _).alloc (by simp; omega) _)
  have hz : w.heap.size + 1 < w1.heap.size := lt_of_heap hc1
  clear hw
  have y0 : w1.cell? ⟨w.heap.size + 1, 0, none⟩ = some (.int .i64 0) := cell_of hc1 0
  have y1 : w1.cell? ⟨w.heap.size + 1, 1, none⟩ = some (.int .i64 0) := cell_of hc1 1
  have y2 : w1.cell? ⟨w.heap.size + 1, 2, none⟩ = some (.int .i64 0) := cell_of hc1 2
  have y3 : w1.cell? ⟨w.heap.size + 1, 3, none⟩ = some (.int .i64 0) := cell_of hc1 3
  have y4 : w1.cell? ⟨w.heap.size + 1, 4, none⟩ = some (.int .i64 0) := cell_of hc1 4
  have y5 : w1.cell? ⟨w.heap.size + 1, 5, none⟩ = some (.int .i64 0) := cell_of hc1 5
  have y6 : w1.cell? ⟨w.heap.size + 1, 6, none⟩ = some (.int .i64 0) := cell_of hc1 6
  have y7 : w1.cell? ⟨w.heap.size + 1, 7, none⟩ = some (.int .i64 0) := cell_of hc1 7
  have f0 : w1.frozen? ⟨w.heap.size + 1, 0, none⟩ = false := frozen_of hc1 0
  have f1 : w1.frozen? ⟨w.heap.size + 1, 1, none⟩ = false := frozen_of hc1 1
  have f2 : w1.frozen? ⟨w.heap.size + 1, 2, none⟩ = false := frozen_of hc1 2
  have f3 : w1.frozen? ⟨w.heap.size + 1, 3, none⟩ = false := frozen_of hc1 3
  have f4 : w1.frozen? ⟨w.heap.size + 1, 4, none⟩ = false := frozen_of hc1 4
  have f5 : w1.frozen? ⟨w.heap.size + 1, 5, none⟩ = false := frozen_of hc1 5
  have f6 : w1.frozen? ⟨w.heap.size + 1, 6, none⟩ = false := frozen_of hc1 6
  have f7 : w1.frozen? ⟨w.heap.size + 1, 7, none⟩ = false := frozen_of hc1 7
  have HC1 := Lib.hid hc1
  have HB1 := Lib.hid hb1
  clear hc1 hb1
  go_wp2_with fail
  have hX := store8 w1 (w.heap.size + 1) 23 _ _ _ _ _ _ _ _ (.int .i64 0) (.int .i64 0) (.int .i64 0) (.int .i64 0) (.int .i64 0) (.int .i64 0) (.int .i64 0) (.int .i64 0) HC1.out
  have hXb := below8 w1 (w.heap.size + 1) (.int .i64 0) (.int .i64 0) (.int .i64 0) (.int .i64 0) (.int .i64 0) (.int .i64 0) (.int .i64 0) (.int .i64 0) HB1.out (by omega)
  exact bodyPost_ret (results28 _ _ (w.heap.size + 1) _ _ _ _ _ _ _ _ _ rfl rfl hX) rfl ⟨rfl, hXb⟩
set_option maxRecDepth 100000 in
theorem ref_round_a (s : Sha.St) (hs : s.ok) (i x : Int) (c0 : i < 0) (w : World) :
    Calls Tryd.prog 28 #[.agg #[.int .i64 s.a, .int .i64 s.b, .int .i64 s.c, .int .i64 s.d, .int .i64 s.e, .int .i64 s.f, .int .i64 s.g, .int .i64 s.h], .int .i64 i, .int .i64 x] w fun e w' => e = .returned (.tuple #[.agg #[.int .i64 0, .int .i64 0, .int .i64 0, .int .i64 0, .int .i64 0, .int .i64 0, .int .i64 0, .int .i64 0], .int .i64 11]) ∧ Below w.heap.size w w' := by
  have Hs := Lib.hid hs
  clear hs
  go_enter Tryd.func28, Tryd.ntmps28
  go_wp2_with fail
  refine (ref_words (s.a : Int) s.b s.c s.d s.e s.f s.g s.h true (words_true Hs.out) _).mono ?_
  rintro e w1 ⟨rfl, hw⟩
  have hc1 : w1.heap[w.heap.size + 1]? = some (.cells #[.int .i64 0, .int .i64 0, .int .i64 0, .int .i64 0, .int .i64 0, .int .i64 0, .int .i64 0, .int .i64 0] 23 (0, 0)) := by
    rw [hw]; exact alloc_heap_old _ (alloc_heap_at _ _ _ (by simp))
  have hb1 : Below w.heap.size w w1 := by
    rw [hw]; exact ((((Below.refl _ w).alloc (Nat.le_refl _) _).alloc (by simp) _).alloc (by simp; omega) _)
  have hz : w.heap.size + 1 < w1.heap.size := lt_of_heap hc1
  clear hw
  have y0 : w1.cell? ⟨w.heap.size + 1, 0, none⟩ = some (.int .i64 0) := cell_of hc1 0
  have y1 : w1.cell? ⟨w.heap.size + 1, 1, none⟩ = some (.int .i64 0) := cell_of hc1 1
  have y2 : w1.cell? ⟨w.heap.size + 1, 2, none⟩ = some (.int .i64 0) := cell_of hc1 2
  have y3 : w1.cell? ⟨w.heap.size + 1, 3, none⟩ = some (.int .i64 0) := cell_of hc1 3
  have y4 : w1.cell? ⟨w.heap.size + 1, 4, none⟩ = some (.int .i64 0) := cell_of hc1 4
  have y5 : w1.cell? ⟨w.heap.size + 1, 5, none⟩ = some (.int .i64 0) := cell_of hc1 5
  have y6 : w1.cell? ⟨w.heap.size + 1, 6, none⟩ = some (.int .i64 0) := cell_of hc1 6
  have y7 : w1.cell? ⟨w.heap.size + 1, 7, none⟩ = some (.int .i64 0) := cell_of hc1 7
  have f0 : w1.frozen? ⟨w.heap.size + 1, 0, none⟩ = false := frozen_of hc1 0
  have f1 : w1.frozen? ⟨w.heap.size + 1, 1, none⟩ = false := frozen_of hc1 1
  have f2 : w1.frozen? ⟨w.heap.size + 1, 2, none⟩ = false := frozen_of hc1 2
  have f3 : w1.frozen? ⟨w.heap.size + 1, 3, none⟩ = false := frozen_of hc1 3
  have f4 : w1.frozen? ⟨w.heap.size + 1, 4, none⟩ = false := frozen_of hc1 4
  have f5 : w1.frozen? ⟨w.heap.size + 1, 5, none⟩ = false := frozen_of hc1 5
  have f6 : w1.frozen? ⟨w.heap.size + 1, 6, none⟩ = false := frozen_of hc1 6
  have f7 : w1.frozen? ⟨w.heap.size + 1, 7, none⟩ = false := frozen_of hc1 7
  have HC1 := Lib.hid hc1
  have HB1 := Lib.hid hb1
  clear hc1 hb1
  go_wp2_with fail
  have hX := store8 w1 (w.heap.size + 1) 23 _ _ _ _ _ _ _ _ (.int .i64 0) (.int .i64 0) (.int .i64 0) (.int .i64 0) (.int .i64 0) (.int .i64 0) (.int .i64 0) (.int .i64 0) HC1.out
  have hXb := below8 w1 (w.heap.size + 1) (.int .i64 0) (.int .i64 0) (.int .i64 0) (.int .i64 0) (.int .i64 0) (.int .i64 0) (.int .i64 0) (.int .i64 0) HB1.out (by omega)
  exact bodyPost_ret (results28 _ _ (w.heap.size + 1) _ _ _ _ _ _ _ _ _ rfl rfl hX) rfl ⟨rfl, hXb⟩
set_option maxRecDepth 100000 in
theorem ref_round_b (s : Sha.St) (hs : s.ok) (i x : Int) (c0 : 0 ≤ i) (c1 : 63 < i) (w : World) :
    Calls Tryd.prog 28 #[.agg #[.int .i64 s.a, .int .i64 s.b, .int .i64 s.c, .int .i64 s.d, .int .i64 s.e, .int .i64 s.f, .int .i64 s.g, .int .i64 s.h], .int .i64 i, .int .i64 x] w fun e w' => e = .returned (.tuple #[.agg #[.int .i64 0, .int .i64 0, .int .i64 0, .int .i64 0, .int .i64 0, .int .i64 0, .int .i64 0, .int .i64 0], .int .i64 11]) ∧ Below w.heap.size w w' := by
  have Hs := Lib.hid hs
  clear hs
  go_enter Tryd.func28, Tryd.ntmps28
  go_wp2_with fail
  refine (ref_words (s.a : Int) s.b s.c s.d s.e s.f s.g s.h true (words_true Hs.out) _).mono ?_
  rintro e w1 ⟨rfl, hw⟩
  have hc1 : w1.heap[w.heap.size + 1]? = some (.cells #[.int .i64 0, .int .i64 0, .int .i64 0, .int .i64 0, .int .i64 0, .int .i64 0, .int .i64 0, .int .i64 0] 23 (0, 0)) := by
    rw [hw]; exact alloc_heap_old _ (alloc_heap_at _ _ _ (by simp))
  have hb1 : Below w.heap.size w w1 := by
    rw [hw]; exact ((((Below.refl _ w).alloc (Nat.le_refl _) _).alloc (by simp) _).alloc (by simp; omega) _)
  have hz : w.heap.size + 1 < w1.heap.size := lt_of_heap hc1
  clear hw
  have y0 : w1.cell? ⟨w.heap.size + 1, 0, none⟩ = some (.int .i64 0) := cell_of hc1 0
  have y1 : w1.cell? ⟨w.heap.size + 1, 1, none⟩ = some (.int .i64 0) := cell_of hc1 1
  have y2 : w1.cell? ⟨w.heap.size + 1, 2, none⟩ = some (.int .i64 0) := cell_of hc1 2
  have y3 : w1.cell? ⟨w.heap.size + 1, 3, none⟩ = some (.int .i64 0) := cell_of hc1 3
  have y4 : w1.cell? ⟨w.heap.size + 1, 4, none⟩ = some (.int .i64 0) := cell_of hc1 4
  have y5 : w1.cell? ⟨w.heap.size + 1, 5, none⟩ = some (.int .i64 0) := cell_of hc1 5
  have y6 : w1.cell? ⟨w.heap.size + 1, 6, none⟩ = some (.int .i64 0) := cell_of hc1 6
  have y7 : w1.cell? ⟨w.heap.size + 1, 7, none⟩ = some (.int .i64 0) := cell_of hc1 7
  have f0 : w1.frozen? ⟨w.heap.size + 1, 0, none⟩ = false := frozen_of hc1 0
  have f1 : w1.frozen? ⟨w.heap.size + 1, 1, none⟩ = false := frozen_of hc1 1
  have f2 : w1.frozen? ⟨w.heap.size + 1, 2, none⟩ = false := frozen_of hc1 2
  have f3 : w1.frozen? ⟨w.heap.size + 1, 3, none⟩ = false := frozen_of hc1 3
  have f4 : w1.frozen? ⟨w.heap.size + 1, 4, none⟩ = false := frozen_of hc1 4
  have f5 : w1.frozen? ⟨w.heap.size + 1, 5, none⟩ = false := frozen_of hc1 5
  have f6 : w1.frozen? ⟨w.heap.size + 1, 6, none⟩ = false := frozen_of hc1 6
  have f7 : w1.frozen? ⟨w.heap.size + 1, 7, none⟩ = false := frozen_of hc1 7
  have HC1 := Lib.hid hc1
  have HB1 := Lib.hid hb1
  clear hc1 hb1
  go_wp2_with fail
  have hX := store8 w1 (w.heap.size + 1) 23 _ _ _ _ _ _ _ _ (.int .i64 0) (.int .i64 0) (.int .i64 0) (.int .i64 0) (.int .i64 0) (.int .i64 0) (.int .i64 0) (.int .i64 0) HC1.out
  have hXb := below8 w1 (w.heap.size + 1) (.int .i64 0) (.int .i64 0) (.int .i64 0) (.int .i64 0) (.int .i64 0) (.int .i64 0) (.int .i64 0) (.int .i64 0) HB1.out (by omega)
  exact bodyPost_ret (results28 _ _ (w.heap.size + 1) _ _ _ _ _ _ _ _ _ rfl rfl hX) rfl ⟨rfl, hXb⟩
set_option maxRecDepth 100000 in
theorem ref_round_c (s : Sha.St) (hs : s.ok) (i x : Int) (c0 : 0 ≤ i) (c1 : i ≤ 63) (c2 : x < 0) (w : World) :
    Calls Tryd.prog 28 #[.agg #[.int .i64 s.a, .int .i64 s.b, .int .i64 s.c, .int .i64 s.d, .int .i64 s.e, .int .i64 s.f, .int .i64 s.g, .int .i64 s.h], .int .i64 i, .int .i64 x] w fun e w' => e = .returned (.tuple #[.agg #[.int .i64 0, .int .i64 0, .int .i64 0, .int .i64 0, .int .i64 0, .int .i64 0, .int .i64 0, .int .i64 0], .int .i64 11]) ∧ Below w.heap.size w w' := by
  have Hs := Lib.hid hs
  clear hs
  go_enter Tryd.func28, Tryd.ntmps28
  go_wp2_with fail
  refine (ref_words (s.a : Int) s.b s.c s.d s.e s.f s.g s.h true (words_true Hs.out) _).mono ?_
  rintro e w1 ⟨rfl, hw⟩
  have hc1 : w1.heap[w.heap.size + 1]? = some (.cells #[.int .i64 0, .int .i64 0, .int .i64 0, .int .i64 0, .int .i64 0, .int .i64 0, .int .i64 0, .int .i64 0] 23 (0, 0)) := by
    rw [hw]; exact alloc_heap_old _ (alloc_heap_at _ _ _ (by simp))
  have hb1 : Below w.heap.size w w1 := by
    rw [hw]; exact ((((Below.refl _ w).alloc (Nat.le_refl _) _).alloc (by simp) _).alloc (by simp; omega) _)
  have hz : w.heap.size + 1 < w1.heap.size := lt_of_heap hc1
  clear hw
  have y0 : w1.cell? ⟨w.heap.size + 1, 0, none⟩ = some (.int .i64 0) := cell_of hc1 0
  have y1 : w1.cell? ⟨w.heap.size + 1, 1, none⟩ = some (.int .i64 0) := cell_of hc1 1
  have y2 : w1.cell? ⟨w.heap.size + 1, 2, none⟩ = some (.int .i64 0) := cell_of hc1 2
  have y3 : w1.cell? ⟨w.heap.size + 1, 3, none⟩ = some (.int .i64 0) := cell_of hc1 3
  have y4 : w1.cell? ⟨w.heap.size + 1, 4, none⟩ = some (.int .i64 0) := cell_of hc1 4
  have y5 : w1.cell? ⟨w.heap.size + 1, 5, none⟩ = some (.int .i64 0) := cell_of hc1 5
  have y6 : w1.cell? ⟨w.heap.size + 1, 6, none⟩ = some (.int .i64 0) := cell_of hc1 6
  have y7 : w1.cell? ⟨w.heap.size + 1, 7, none⟩ = some (.int .i64 0) := cell_of hc1 7
  have f0 : w1.frozen? ⟨w.heap.size + 1, 0, none⟩ = false := frozen_of hc1 0
  have f1 : w1.frozen? ⟨w.heap.size + 1, 1, none⟩ = false := frozen_of hc1 1
  have f2 : w1.frozen? ⟨w.heap.size + 1, 2, none⟩ = false := frozen_of hc1 2
  have f3 : w1.frozen? ⟨w.heap.size + 1, 3, none⟩ = false := frozen_of hc1 3
  have f4 : w1.frozen? ⟨w.heap.size + 1, 4, none⟩ = false := frozen_of hc1 4
  have f5 : w1.frozen? ⟨w.heap.size + 1, 5, none⟩ = false := frozen_of hc1 5
  have f6 : w1.frozen? ⟨w.heap.size + 1, 6, none⟩ = false := frozen_of hc1 6
  have f7 : w1.frozen? ⟨w.heap.size + 1, 7, none⟩ = false := frozen_of hc1 7
  have HC1 := Lib.hid hc1
  have HB1 := Lib.hid hb1
  clear hc1 hb1
  go_wp2_with fail
  have hX := store8 w1 (w.heap.size + 1) 23 _ _ _ _ _ _ _ _ (.int .i64 0) (.int .i64 0) (.int .i64 0) (.int .i64 0) (.int .i64 0) (.int .i64 0) (.int .i64 0) (.int .i64 0) HC1.out
  have hXb := below8 w1 (w.heap.size + 1) (.int .i64 0) (.int .i64 0) (.int .i64 0) (.int .i64 0) (.int .i64 0) (.int .i64 0) (.int .i64 0) (.int .i64 0) HB1.out (by omega)
  exact bodyPost_ret (results28 _ _ (w.heap.size + 1) _ _ _ _ _ _ _ _ _ rfl rfl hX) rfl ⟨rfl, hXb⟩
set_option maxRecDepth 100000 in
theorem ref_round_d (s : Sha.St) (hs : s.ok) (i x : Int) (c0 : 0 ≤ i) (c1 : i ≤ 63) (c2 : 0 ≤ x) (c3 : 4294967295 < x) (w : World) :
    Calls Tryd.prog 28 #[.agg #[.int .i64 s.a, .int .i64 s.b, .int .i64 s.c, .int .i64 s.d, .int .i64 s.e, .int .i64 s.f, .int .i64 s.g, .int .i64 s.h], .int .i64 i, .int .i64 x] w fun e w' => e = .returned (.tuple #[.agg #[.int .i64 0, .int .i64 0, .int .i64 0, .int .i64 0, .int .i64 0, .int .i64 0, .int .i64 0, .int .i64 0], .int .i64 11]) ∧ Below w.heap.size w w' := by
  have Hs := Lib.hid hs
  clear hs
  go_enter Tryd.func28, Tryd.ntmps28
  go_wp2_with fail
  refine (ref_words (s.a : Int) s.b s.c s.d s.e s.f s.g s.h true (words_true Hs.out) _).mono ?_
  rintro e w1 ⟨rfl, hw⟩
  have hc1 : w1.heap[w.heap.size + 1]? = some (.cells #[.int .i64 0, .int .i64 0, .int .i64 0, .int .i64 0, .int .i64 0, .int .i64 0, .int .i64 0, .int .i64 0] 23 (0, 0)) := by
    rw [hw]; exact alloc_heap_old _ (alloc_heap_at _ _ _ (by simp))
  have hb1 : Below w.heap.size w w1 := by
    rw [hw]; exact ((((Below.refl _ w).alloc (Nat.le_refl _) _).alloc (by simp) _).alloc (by simp; omega) _)
  have hz : w.heap.size + 1 < w1.heap.size := lt_of_heap hc1
  clear hw
  have y0 : w1.cell? ⟨w.heap.size + 1, 0, none⟩ = some (.int .i64 0) := cell_of hc1 0
  have y1 : w1.cell? ⟨w.heap.size + 1, 1, none⟩ = some (.int .i64 0) := cell_of hc1 1
  have y2 : w1.cell? ⟨w.heap.size + 1, 2, none⟩ = some (.int .i64 0) := cell_of hc1 2
  have y3 : w1.cell? ⟨w.heap.size + 1, 3, none⟩ = some (.int .i64 0) := cell_of hc1 3
  have y4 : w1.cell? ⟨w.heap.size + 1, 4, none⟩ = some (.int .i64 0) := cell_of hc1 4
  have y5 : w1.cell? ⟨w.heap.size + 1, 5, none⟩ = some (.int .i64 0) := cell_of hc1 5
  have y6 : w1.cell? ⟨w.heap.size + 1, 6, none⟩ = some (.int .i64 0) := cell_of hc1 6
  have y7 : w1.cell? ⟨w.heap.size + 1, 7, none⟩ = some (.int .i64 0) := cell_of hc1 7
  have f0 : w1.frozen? ⟨w.heap.size + 1, 0, none⟩ = false := frozen_of hc1 0
  have f1 : w1.frozen? ⟨w.heap.size + 1, 1, none⟩ = false := frozen_of hc1 1
  have f2 : w1.frozen? ⟨w.heap.size + 1, 2, none⟩ = false := frozen_of hc1 2
  have f3 : w1.frozen? ⟨w.heap.size + 1, 3, none⟩ = false := frozen_of hc1 3
  have f4 : w1.frozen? ⟨w.heap.size + 1, 4, none⟩ = false := frozen_of hc1 4
  have f5 : w1.frozen? ⟨w.heap.size + 1, 5, none⟩ = false := frozen_of hc1 5
  have f6 : w1.frozen? ⟨w.heap.size + 1, 6, none⟩ = false := frozen_of hc1 6
  have f7 : w1.frozen? ⟨w.heap.size + 1, 7, none⟩ = false := frozen_of hc1 7
  have HC1 := Lib.hid hc1
  have HB1 := Lib.hid hb1
  clear hc1 hb1
  go_wp2_with fail
  have hX := store8 w1 (w.heap.size + 1) 23 _ _ _ _ _ _ _ _ (.int .i64 0) (.int .i64 0) (.int .i64 0) (.int .i64 0) (.int .i64 0) (.int .i64 0) (.int .i64 0) (.int .i64 0) HC1.out
  have hXb := below8 w1 (w.heap.size + 1) (.int .i64 0) (.int .i64 0) (.int .i64 0) (.int .i64 0) (.int .i64 0) (.int .i64 0) (.int .i64 0) (.int .i64 0) HB1.out (by omega)
  exact bodyPost_ret (results28 _ _ (w.heap.size + 1) _ _ _ _ _ _ _ _ _ rfl rfl hX) rfl ⟨rfl, hXb⟩
set_option maxRecDepth 100000 in
set_option maxHeartbeats 2000000 in
theorem ref_round_ok (s : Sha.St) (hs : s.ok) (i x : Nat) (hi : i < 64) (hx : x < 4294967296) (w : World) (hk : w.cell? ⟨1, i, none⟩ = some (.int .i64 (Sha.K.getD i 0 : Nat))) (h1 : 1 < w.heap.size) :
    Calls Tryd.prog 28 #[.agg #[.int .i64 s.a, .int .i64 s.b, .int .i64 s.c, .int .i64 s.d, .int .i64 s.e, .int .i64 s.f, .int .i64 s.g, .int .i64 s.h], .int .i64 (i : Int), .int .i64 (x : Int)] w fun e w' => e = .returned (.tuple #[.agg (row64 (s.round (Sha.K.getD i 0) x)), .int .i64 0]) ∧ Below w.heap.size w w' := by
  have Hs := Lib.hid hs
  obtain ⟨l0, l1, l2, l3, l4, l5, l6, l7⟩ := hs
  have i0 : (0 : Int) ≤ (i : Int) := by omega
  have i1 : (i : Int) ≤ 63 := by omega
  have i2 : (i : Int) < 64 := by omega
  have x0 : (0 : Int) ≤ (x : Int) := by omega
  have x1 : (x : Int) ≤ 4294967295 := by omega
  have lk : Sha.K.getD i 0 < 4294967296 := K_lt i hi
  obtain ⟨k, hkk⟩ : ∃ k, Sha.K.getD i 0 = k := ⟨_, rfl⟩
  rw [hkk] at hk lk ⊢
  have Hi := Lib.hid hi
  have hab := Lib.hid (i64_and_word s.a s.b l0 l1)
  have hac := Lib.hid (i64_and_word s.a s.c l0 l2)
  have hbc := Lib.hid (i64_and_word s.b s.c l1 l2)
  have hch := Lib.hid (ch64 s.e s.f s.g l4 l5 l6)
  have lab : s.a &&& s.b < 4294967296 := Nat.and_lt_two_pow (n := 32) _ l1
  have lac : s.a &&& s.c < 4294967296 := Nat.and_lt_two_pow (n := 32) _ l2
  have lbc : s.b &&& s.c < 4294967296 := Nat.and_lt_two_pow (n := 32) _ l2
  clear hi hkk
  go_enter Tryd.func28, Tryd.ntmps28
  go_wp2_with fail
  refine (ref_words (s.a : Int) s.b s.c s.d s.e s.f s.g s.h true (words_true Hs.out) _).mono ?_
  rintro e w1 ⟨rfl, hw⟩
  have hc1 : w1.heap[w.heap.size + 1]? = some (.cells #[.int .i64 0, .int .i64 0, .int .i64 0, .int .i64 0, .int .i64 0, .int .i64 0, .int .i64 0, .int .i64 0] 23 (0, 0)) := by
    rw [hw]; exact alloc_heap_old _ (alloc_heap_at _ _ _ (by simp))
  have hd1 : w1.heap[w.heap.size]? = some (.cells #[.int .i64 s.a, .int .i64 s.b, .int .i64 s.c, .int .i64 s.d, .int .i64 s.e, .int .i64 s.f, .int .i64 s.g, .int .i64 s.h] 23 (0, 0)) := by
    rw [hw]; exact alloc_heap_old _ (alloc_heap_old _ (alloc_heap_at _ _ _ rfl))
  have hb1 : Below w.heap.size w w1 := by
    rw [hw]; exact ((((Below.refl _ w).alloc (Nat.le_refl _) _).alloc (by simp) _).alloc (by simp; omega) _)
  have hz : w.heap.size + 1 < w1.heap.size := lt_of_heap hc1
  have ck : w1.cell? ⟨1, i, none⟩ = some (.int .i64 (k : Int)) := (hb1.cell (p := ⟨1, i, none⟩) h1).trans hk
  clear hw hk
  have y0 : w1.cell? ⟨w.heap.size, 0, none⟩ = some (.int .i64 s.a) := cell_of hd1 0
  have y1 : w1.cell? ⟨w.heap.size, 1, none⟩ = some (.int .i64 s.b) := cell_of hd1 1
  have y2 : w1.cell? ⟨w.heap.size, 2, none⟩ = some (.int .i64 s.c) := cell_of hd1 2
  have y3 : w1.cell? ⟨w.heap.size, 3, none⟩ = some (.int .i64 s.d) := cell_of hd1 3
  have y4 : w1.cell? ⟨w.heap.size, 4, none⟩ = some (.int .i64 s.e) := cell_of hd1 4
  have y5 : w1.cell? ⟨w.heap.size, 5, none⟩ = some (.int .i64 s.f) := cell_of hd1 5
  have y6 : w1.cell? ⟨w.heap.size, 6, none⟩ = some (.int .i64 s.g) := cell_of hd1 6
  have y7 : w1.cell? ⟨w.heap.size, 7, none⟩ = some (.int .i64 s.h) := cell_of hd1 7
  have HC1 := Lib.hid hc1
  have HD1 := Lib.hid hd1
  have HB1 := Lib.hid hb1
  clear hc1 hb1 hd1
  go_wp2_with fail
  refine (ref_xor_ints (s.a &&& s.b) (s.a &&& s.c) (s.b &&& s.c) _ _ _ hab.out hac.out hbc.out lab lac lbc _).mono ?_
  rintro e w2 ⟨rfl, rfl⟩
  rw [hch.out]
  have hm : ((s.a &&& s.b) ^^^ (s.a &&& s.c)) ^^^ (s.b &&& s.c) = Sha.maj s.a s.b s.c := rfl
  rw [hm]
  obtain ⟨M, hM⟩ : ∃ M, Sha.maj s.a s.b s.c = M := ⟨_, rfl⟩
  obtain ⟨D, hD⟩ : ∃ D, Sha.ch s.e s.f s.g = D := ⟨_, rfl⟩
  have lM : M < 4294967296 := by rw [← hM, ← hm]; exact word_xor2 _ _ (word_xor2 _ _ lab lac) lbc
  have lD : D < 4294967296 := by rw [← hD]; exact ch_lt _ _ _ l5 l6
  rw [hM, hD]
  have HM := Lib.hid hM
  have HD := Lib.hid hD
  clear hM hD hm lab lac lbc hab hac hbc hch
  go_upto_region 7 with (fail)
  obtain ⟨X1, hX1⟩ : ∃ X, (Sha.rr s.e 6 ^^^ Sha.rr s.e 11) ^^^ Sha.rr s.e 25 = X := ⟨_, rfl⟩
  have r6 := Sha.rr_lt (k := 6) l4 (by decide) (by decide)
  have r11 := Sha.rr_lt (k := 11) l4 (by decide) (by decide)
  have r25 := Sha.rr_lt (k := 25) l4 (by decide) (by decide)
  have lX1 : X1 < 4294967296 := by rw [← hX1]; exact word_xor2 _ _ (word_xor2 _ _ r6 r11) r25
  obtain ⟨u1, hu1⟩ : ∃ y, s.h + X1 = y := ⟨_, rfl⟩
  obtain ⟨u2, hu2⟩ : ∃ y, u1 + D = y := ⟨_, rfl⟩
  obtain ⟨u3, hu3⟩ : ∃ y, u2 + k = y := ⟨_, rfl⟩
  obtain ⟨u4, hu4⟩ : ∃ y, u3 + x = y := ⟨_, rfl⟩
  obtain ⟨T1, hT1⟩ : ∃ y, Sha.t1 s k x = y := ⟨_, rfl⟩
  have hT1v : T1 = u4 % 4294967296 := by rw [← hT1, ← hu4, ← hu3, ← hu2, ← hu1, ← hX1, ← HD.out]; unfold Sha.t1; rw [turned3]
  have lT1 : T1 < 4294967296 := by rw [hT1v]; exact Nat.mod_lt _ (by decide)
  have HT1 := Lib.hid hT1
  have f1 : IntKind.i64.wrap ((s.h : Int) + (X1 : Int)) = (u1 : Int) := by rw [IntWalk.i64_in _ (by omega)]; omega
  have f2 : IntKind.i64.wrap ((u1 : Int) + (D : Int)) = (u2 : Int) := by rw [IntWalk.i64_in _ (by omega)]; omega
  have f3 : IntKind.i64.wrap ((u2 : Int) + (k : Int)) = (u3 : Int) := by rw [IntWalk.i64_in _ (by omega)]; omega
  have f4 : IntKind.i64.wrap ((u3 : Int) + (x : Int)) = (u4 : Int) := by rw [IntWalk.i64_in _ (by omega)]; omega
  have f5 : (u4 : Int).tmod 4294967296 = (T1 : Int) := by rw [hT1v, Int.tmod_eq_emod_of_nonneg (by omega)]; simp
  have f6 : (u4 : Int) % 4294967296 = (T1 : Int) := by rw [hT1v]; simp
  have HX1 := Lib.hid hX1
  clear hu1 hu2 hu3 hu4 hT1v hT1 hX1
  go_region_held3 (fun w' => w'.cell? ⟨w.heap.size, 7, none⟩ = some (.int .i64 s.h) ∧ w'.cell? ⟨1, i, none⟩ = some (.int .i64 (k : Int))) (go_keep) (first
    | (go_at_call 64; (with_reducible refine (ref_turn_lit s.e 6 6 rfl l4 (by decide) (by decide) _).mono ?_); rintro e w' ⟨rfl, m, rfl⟩)
    | (go_at_call 64; (with_reducible refine (ref_turn_lit s.e 11 11 rfl l4 (by decide) (by decide) _).mono ?_); rintro e w' ⟨rfl, m, rfl⟩)
    | (go_at_call 64; (with_reducible refine (ref_turn_lit s.e 25 25 rfl l4 (by decide) (by decide) _).mono ?_); rintro e w' ⟨rfl, m, rfl⟩)
    | (go_at_call 63; (with_reducible refine (ref_xor _ _ _ r6 r11 r25 _).mono ?_); rintro e w' ⟨rfl, rfl⟩; rw [HX1.out]))
  clear f1 f2 f3 f4 f5 f6 ck r6 r11 r25
  obtain ⟨X2, hX2⟩ : ∃ X, (Sha.rr s.a 2 ^^^ Sha.rr s.a 13) ^^^ Sha.rr s.a 22 = X := ⟨_, rfl⟩
  have r2 := Sha.rr_lt (k := 2) l0 (by decide) (by decide)
  have r13 := Sha.rr_lt (k := 13) l0 (by decide) (by decide)
  have r22 := Sha.rr_lt (k := 22) l0 (by decide) (by decide)
  have lX2 : X2 < 4294967296 := by rw [← hX2]; exact word_xor2 _ _ (word_xor2 _ _ r2 r13) r22
  have HX2 := Lib.hid hX2
  clear hX2
  go_wp2_with fail
  refine (ref_turn_lit s.a 2 2 rfl l0 (by decide) (by decide) _).mono ?_
  rintro e wa ⟨rfl, m2, rfl⟩
  go_wp2_with fail
  refine (ref_turn_lit s.a 13 13 rfl l0 (by decide) (by decide) _).mono ?_
  rintro e wa ⟨rfl, m3, rfl⟩
  go_wp2_with fail
  refine (ref_turn_lit s.a 22 22 rfl l0 (by decide) (by decide) _).mono ?_
  rintro e wa ⟨rfl, m4, rfl⟩
  go_wp2_with fail
  refine (ref_xor _ _ _ r2 r13 r22 _).mono ?_
  rintro e wa ⟨rfl, rfl⟩
  rw [HX2.out]
  clear r2 r13 r22 y0 y1 y2 y3 y4 y5 y6 y7
  go_upto_region 9 with (fail)
  have hT2 : ((((X2 : Int) + (M : Int)) % 4294967296)) = ((Sha.t2 s : Nat) : Int) := by
    unfold Sha.t2
    rw [turned3, HX2.out, HM.out]
    simp
  rw [hT2]
  obtain ⟨T2, hT2e⟩ : ∃ y, Sha.t2 s = y := ⟨_, rfl⟩
  have lT2 : T2 < 4294967296 := by rw [← hT2e]; exact Nat.mod_lt _ (by decide)
  rw [hT2e]
  have HT2 := Lib.hid hT2e
  clear hT2 hT2e
  generalize hXe : World.drewN _ _ = X
  have hF : Far NoneD w1 X := by rw [← hXe]; repeat (first | exact Far.refl _ _ | refine Far.drewN ?_ _ | refine Far.drew ?_)
  have hd := hF.heap HD1.out (fun h => h)
  have hc := hF.heap HC1.out (fun h => h)
  have hb := HB1.out.trans (hF.to_below HB1.out.size (fun _ _ h => h))
  clear hXe hF
  have y0 : X.cell? ⟨w.heap.size, 0, none⟩ = some (.int .i64 s.a) := cell_of hd 0
  have y1 : X.cell? ⟨w.heap.size, 1, none⟩ = some (.int .i64 s.b) := cell_of hd 1
  have y2 : X.cell? ⟨w.heap.size, 2, none⟩ = some (.int .i64 s.c) := cell_of hd 2
  have y3 : X.cell? ⟨w.heap.size, 3, none⟩ = some (.int .i64 s.d) := cell_of hd 3
  have y4 : X.cell? ⟨w.heap.size, 4, none⟩ = some (.int .i64 s.e) := cell_of hd 4
  have y5 : X.cell? ⟨w.heap.size, 5, none⟩ = some (.int .i64 s.f) := cell_of hd 5
  have y6 : X.cell? ⟨w.heap.size, 6, none⟩ = some (.int .i64 s.g) := cell_of hd 6
  have y7 : X.cell? ⟨w.heap.size, 7, none⟩ = some (.int .i64 s.h) := cell_of hd 7
  have z0 : X.cell? ⟨w.heap.size + 1, 0, none⟩ = some (.int .i64 0) := cell_of hc 0
  have z1 : X.cell? ⟨w.heap.size + 1, 1, none⟩ = some (.int .i64 0) := cell_of hc 1
  have z2 : X.cell? ⟨w.heap.size + 1, 2, none⟩ = some (.int .i64 0) := cell_of hc 2
  have z3 : X.cell? ⟨w.heap.size + 1, 3, none⟩ = some (.int .i64 0) := cell_of hc 3
  have z4 : X.cell? ⟨w.heap.size + 1, 4, none⟩ = some (.int .i64 0) := cell_of hc 4
  have z5 : X.cell? ⟨w.heap.size + 1, 5, none⟩ = some (.int .i64 0) := cell_of hc 5
  have z6 : X.cell? ⟨w.heap.size + 1, 6, none⟩ = some (.int .i64 0) := cell_of hc 6
  have z7 : X.cell? ⟨w.heap.size + 1, 7, none⟩ = some (.int .i64 0) := cell_of hc 7
  have f0 : X.frozen? ⟨w.heap.size + 1, 0, none⟩ = false := frozen_of hc 0
  have f1 : X.frozen? ⟨w.heap.size + 1, 1, none⟩ = false := frozen_of hc 1
  have f2 : X.frozen? ⟨w.heap.size + 1, 2, none⟩ = false := frozen_of hc 2
  have f3 : X.frozen? ⟨w.heap.size + 1, 3, none⟩ = false := frozen_of hc 3
  have f4 : X.frozen? ⟨w.heap.size + 1, 4, none⟩ = false := frozen_of hc 4
  have f5 : X.frozen? ⟨w.heap.size + 1, 5, none⟩ = false := frozen_of hc 5
  have f6 : X.frozen? ⟨w.heap.size + 1, 6, none⟩ = false := frozen_of hc 6
  have f7 : X.frozen? ⟨w.heap.size + 1, 7, none⟩ = false := frozen_of hc 7
  have HC := Lib.hid hc
  have HB := Lib.hid hb
  clear hd hc hb
  go_wp2_with fail
  have hX := store8 X (w.heap.size + 1) 23 _ _ _ _ _ _ _ _ (.int .i64 (((T1 : Int) + (T2 : Int)) % 4294967296)) (.int .i64 s.a) (.int .i64 s.b) (.int .i64 s.c) (.int .i64 (((s.d : Int) + (T1 : Int)) % 4294967296)) (.int .i64 s.e) (.int .i64 s.f) (.int .i64 s.g) HC.out
  have hXb := below8 X (w.heap.size + 1) (.int .i64 (((T1 : Int) + (T2 : Int)) % 4294967296)) (.int .i64 s.a) (.int .i64 s.b) (.int .i64 s.c) (.int .i64 (((s.d : Int) + (T1 : Int)) % 4294967296)) (.int .i64 s.e) (.int .i64 s.f) (.int .i64 s.g) HB.out (by omega)
  have hrow : row64 (s.round k x) = #[.int .i64 (((T1 : Int) + (T2 : Int)) % 4294967296), .int .i64 s.a, .int .i64 s.b, .int .i64 s.c, .int .i64 (((s.d : Int) + (T1 : Int)) % 4294967296), .int .i64 s.e, .int .i64 s.f, .int .i64 s.g] := by
    unfold row64 Sha.St.round
    rw [HT1.out, HT2.out]
    simp
  exact bodyPost_ret (results28 _ _ (w.heap.size + 1) _ _ _ _ _ _ _ _ _ rfl rfl hX) rfl ⟨by rw [hrow]; rfl, hXb⟩
theorem ref_round_bad (s0 s1 s2 s3 s4 s5 s6 s7 i x : Int) (hbad : ¬ (Words8 s0 s1 s2 s3 s4 s5 s6 s7 ∧ (0 ≤ i ∧ i ≤ 63) ∧ (0 ≤ x ∧ x ≤ 4294967295))) (w : World) :
    Calls Tryd.prog 28 #[.agg #[.int .i64 s0, .int .i64 s1, .int .i64 s2, .int .i64 s3, .int .i64 s4, .int .i64 s5, .int .i64 s6, .int .i64 s7], .int .i64 i, .int .i64 x] w fun e w' => e = .returned (.tuple #[.agg #[.int .i64 0, .int .i64 0, .int .i64 0, .int .i64 0, .int .i64 0, .int .i64 0, .int .i64 0, .int .i64 0], .int .i64 11]) ∧ Below w.heap.size w w' := by
  by_cases hW : Words8 s0 s1 s2 s3 s4 s5 s6 s7
  · obtain ⟨s, hs, rfl, rfl, rfl, rfl, rfl, rfl, rfl, rfl⟩ := words8_st hW
    by_cases c0 : i < 0
    · exact ref_round_a s hs i x c0 w
    by_cases c1 : 63 < i
    · exact ref_round_b s hs i x (by omega) c1 w
    by_cases c2 : x < 0
    · exact ref_round_c s hs i x (by omega) (by omega) c2 w
    by_cases c3 : 4294967295 < x
    · exact ref_round_d s hs i x (by omega) (by omega) (by omega) c3 w
    exact absurd ⟨hW, ⟨by omega, by omega⟩, ⟨by omega, by omega⟩⟩ hbad
  · exact ref_round_word s0 s1 s2 s3 s4 s5 s6 s7 i x hW w
end Go.Proofs.YtfafidholldjlaaDoor
/- The document's answer for the rounds: Compress. -/
set_option linter.unusedVariables false
set_option linter.unusedSimpArgs false
namespace Go.Proofs.YtfafidholldjlaaDoor
open Go.RowKit
theorem results30 (tmps : Array Value) (w : World) (b : Nat) (v0 v1 v2 v3 v4 v5 v6 v7 e : Value) (h4 : tmps.getD 4 undef = .pointer (some ⟨b, 0, none⟩)) (h5 : tmps.getD 5 undef = e) (hb : w.heap[b]? = some (.cells #[v0, v1, v2, v3, v4, v5, v6, v7] 23 (0, 0))) :
    (results Tryd.f30 tmps).run Tryd.prog w = .ok (.tuple #[.agg #[v0, v1, v2, v3, v4, v5, v6, v7], e]) w := by
  have c0 : w.cell? ⟨b, 0, none⟩ = some v0 := cell_of hb 0
  have c1 : w.cell? ⟨b, 1, none⟩ = some v1 := cell_of hb 1
  have c2 : w.cell? ⟨b, 2, none⟩ = some v2 := cell_of hb 2
  have c3 : w.cell? ⟨b, 3, none⟩ = some v3 := cell_of hb 3
  have c4 : w.cell? ⟨b, 4, none⟩ = some v4 := cell_of hb 4
  have c5 : w.cell? ⟨b, 5, none⟩ = some v5 := cell_of hb 5
  have c6 : w.cell? ⟨b, 6, none⟩ = some v6 := cell_of hb 6
  have c7 : w.cell? ⟨b, 7, none⟩ = some v7 := cell_of hb 7
  simp only [Array.getD_eq_getD_getElem?] at h4 h5
  simp [results, Tryd.results30, go_sem, h4, h5, c0, c1, c2, c3, c4, c5, c6, c7]
/-- A row whose first places have another one's words added. -/
def mixRow (r s : List Nat) (t : Nat) : Array Value := ((List.range 8).map fun j => Value.int .i64 ((if j < t then (r.getD j 0 + s.getD j 0) % 4294967296 else r.getD j 0 : Nat) : Int)).toArray
theorem mixRow_get (r s : List Nat) (t k : Nat) (h : k < 8) : (mixRow r s t)[k]? = some (.int .i64 ((if k < t then (r.getD k 0 + s.getD k 0) % 4294967296 else r.getD k 0 : Nat) : Int)) := by
  simp [mixRow, h]
theorem mixRow_set (r s : List Nat) (t : Nat) (h : t < 8) : (mixRow r s t).setIfInBounds t (.int .i64 (((r.getD t 0 + s.getD t 0) % 4294967296 : Nat) : Int)) = mixRow r s (t + 1) := by
  apply Array.ext
  · simp [mixRow]
  · intro i h1 h2
    have hi : i < 8 := by simpa [mixRow] using h2
    simp only [mixRow, List.setIfInBounds_toArray, List.getElem_toArray, List.getElem_set, List.getElem_map, List.getElem_range]
    by_cases e : t = i
    · subst e; simp
    · rw [if_neg e]
      congr 2
      by_cases hl : i < t
      · rw [if_pos hl, if_pos (by omega)]
      · rw [if_neg hl, if_neg (by omega)]
def words8 (s : Sha.St) : List Nat := [s.a, s.b, s.c, s.d, s.e, s.f, s.g, s.h]
theorem mixRow_zero (r s : Sha.St) : mixRow (words8 r) (words8 s) 0 = row64 r := by rfl
theorem mixRow_eight (r s : Sha.St) : mixRow (words8 r) (words8 s) 8 = row64 (r.add s) := by rfl
theorem words8_lt {s : Sha.St} (hs : s.ok) (t : Nat) (ht : t < 8) : (words8 s).getD t 0 < 4294967296 := by
  obtain ⟨l0, l1, l2, l3, l4, l5, l6, l7⟩ := hs
  match t, ht with
  | 0, _ => exact l0
  | 1, _ => exact l1
  | 2, _ => exact l2
  | 3, _ => exact l3
  | 4, _ => exact l4
  | 5, _ => exact l5
  | 6, _ => exact l6
  | 7, _ => exact l7
theorem row64_get (s : Sha.St) (t : Nat) (ht : t < 8) : (row64 s)[t]? = some (.int .i64 ((words8 s).getD t 0 : Nat)) := by
  match t, ht with
  | 0, _ => rfl
  | 1, _ => rfl
  | 2, _ => rfl
  | 3, _ => rfl
  | 4, _ => rfl
  | 5, _ => rfl
  | 6, _ => rfl
  | 7, _ => rfl
set_option maxRecDepth 100000 in
theorem ref_compress_word (s0 s1 s2 s3 s4 s5 s6 s7 : Int) (hbad : ¬ Words8 s0 s1 s2 s3 s4 s5 s6 s7) (b : ByteArray) (w : World) :
    Calls Tryd.prog 30 #[.agg #[.int .i64 s0, .int .i64 s1, .int .i64 s2, .int .i64 s3, .int .i64 s4, .int .i64 s5, .int .i64 s6, .int .i64 s7], .string b] w fun e w' => e = .returned (.tuple #[.agg #[.int .i64 0, .int .i64 0, .int .i64 0, .int .i64 0, .int .i64 0, .int .i64 0, .int .i64 0, .int .i64 0], .int .i64 11]) ∧ Below w.heap.size w w' := by
  have Hb := Lib.hid hbad
  clear hbad
  go_enter Tryd.func30, Tryd.ntmps30
  go_wp2_with fail
  refine (ref_words s0 s1 s2 s3 s4 s5 s6 s7 false (words_false Hb.out) _).mono ?_
  rintro e w1 ⟨rfl, hw⟩
  have hc1 : w1.heap[w.heap.size + 1]? = some (.cells #[.int .i64 0, .int .i64 0, .int .i64 0, .int .i64 0, .int .i64 0, .int .i64 0, .int .i64 0, .int .i64 0] 23 (0, 0)) := by
    rw [hw]; exact alloc_heap_old _ (alloc_heap_at _ _ _ (by simp))
  have hd1 : w1.heap[w.heap.size]? = some (.cells #[.int .i64 s0, .int .i64 s1, .int .i64 s2, .int .i64 s3, .int .i64 s4, .int .i64 s5, .int .i64 s6, .int .i64 s7] 23 (0, 0)) := by
    rw [hw]; exact alloc_heap_old _ (alloc_heap_old _ (alloc_heap_at _ _ _ rfl))
  have hb1 : Below w.heap.size w w1 := by
    rw [hw]; exact ((((Below.refl _ w).alloc (Nat.le_refl _) _).alloc (by simp) _).alloc (by simp; omega) _)
  have hz : w.heap.size + 1 < w1.heap.size := lt_of_heap hc1
  clear hw
  have y0 : w1.cell? ⟨w.heap.size + 1, 0, none⟩ = some (.int .i64 0) := cell_of hc1 0
  have y1 : w1.cell? ⟨w.heap.size + 1, 1, none⟩ = some (.int .i64 0) := cell_of hc1 1
  have y2 : w1.cell? ⟨w.heap.size + 1, 2, none⟩ = some (.int .i64 0) := cell_of hc1 2
  have y3 : w1.cell? ⟨w.heap.size + 1, 3, none⟩ = some (.int .i64 0) := cell_of hc1 3
  have y4 : w1.cell? ⟨w.heap.size + 1, 4, none⟩ = some (.int .i64 0) := cell_of hc1 4
  have y5 : w1.cell? ⟨w.heap.size + 1, 5, none⟩ = some (.int .i64 0) := cell_of hc1 5
  have y6 : w1.cell? ⟨w.heap.size + 1, 6, none⟩ = some (.int .i64 0) := cell_of hc1 6
  have y7 : w1.cell? ⟨w.heap.size + 1, 7, none⟩ = some (.int .i64 0) := cell_of hc1 7
  have f0 : w1.frozen? ⟨w.heap.size + 1, 0, none⟩ = false := frozen_of hc1 0
  have f1 : w1.frozen? ⟨w.heap.size + 1, 1, none⟩ = false := frozen_of hc1 1
  have f2 : w1.frozen? ⟨w.heap.size + 1, 2, none⟩ = false := frozen_of hc1 2
  have f3 : w1.frozen? ⟨w.heap.size + 1, 3, none⟩ = false := frozen_of hc1 3
  have f4 : w1.frozen? ⟨w.heap.size + 1, 4, none⟩ = false := frozen_of hc1 4
  have f5 : w1.frozen? ⟨w.heap.size + 1, 5, none⟩ = false := frozen_of hc1 5
  have f6 : w1.frozen? ⟨w.heap.size + 1, 6, none⟩ = false := frozen_of hc1 6
  have f7 : w1.frozen? ⟨w.heap.size + 1, 7, none⟩ = false := frozen_of hc1 7
  have HC1 := Lib.hid hc1
  have HB1 := Lib.hid hb1
  clear hc1 hb1 hd1
  go_wp2_with fail
  have hX := store8 w1 (w.heap.size + 1) 23 _ _ _ _ _ _ _ _ (.int .i64 0) (.int .i64 0) (.int .i64 0) (.int .i64 0) (.int .i64 0) (.int .i64 0) (.int .i64 0) (.int .i64 0) HC1.out
  have hXb := below8 w1 (w.heap.size + 1) (.int .i64 0) (.int .i64 0) (.int .i64 0) (.int .i64 0) (.int .i64 0) (.int .i64 0) (.int .i64 0) (.int .i64 0) HB1.out (by omega)
  exact bodyPost_ret (results30 _ _ (w.heap.size + 1) _ _ _ _ _ _ _ _ _ rfl rfl hX) rfl ⟨rfl, hXb⟩
set_option maxRecDepth 100000 in
theorem ref_compress_block (s : Sha.St) (hs : s.ok) (b : ByteArray) (hbl : b.size ≠ 64) (w : World) :
    Calls Tryd.prog 30 #[.agg #[.int .i64 s.a, .int .i64 s.b, .int .i64 s.c, .int .i64 s.d, .int .i64 s.e, .int .i64 s.f, .int .i64 s.g, .int .i64 s.h], .string b] w fun e w' => e = .returned (.tuple #[.agg #[.int .i64 0, .int .i64 0, .int .i64 0, .int .i64 0, .int .i64 0, .int .i64 0, .int .i64 0, .int .i64 0], .int .i64 10]) ∧ Below w.heap.size w w' := by
  have Hs := Lib.hid hs
  have Hbl := Lib.hid hbl
  clear hs hbl
  go_enter Tryd.func30, Tryd.ntmps30
  go_wp2_with fail
  refine (ref_words (s.a : Int) s.b s.c s.d s.e s.f s.g s.h true (words_true Hs.out) _).mono ?_
  rintro e w1 ⟨rfl, hw⟩
  have hc1 : w1.heap[w.heap.size + 1]? = some (.cells #[.int .i64 0, .int .i64 0, .int .i64 0, .int .i64 0, .int .i64 0, .int .i64 0, .int .i64 0, .int .i64 0] 23 (0, 0)) := by
    rw [hw]; exact alloc_heap_old _ (alloc_heap_at _ _ _ (by simp))
  have hd1 : w1.heap[w.heap.size]? = some (.cells #[.int .i64 s.a, .int .i64 s.b, .int .i64 s.c, .int .i64 s.d, .int .i64 s.e, .int .i64 s.f, .int .i64 s.g, .int .i64 s.h] 23 (0, 0)) := by
    rw [hw]; exact alloc_heap_old _ (alloc_heap_old _ (alloc_heap_at _ _ _ rfl))
  have hb1 : Below w.heap.size w w1 := by
    rw [hw]; exact ((((Below.refl _ w).alloc (Nat.le_refl _) _).alloc (by simp) _).alloc (by simp; omega) _)
  have hz : w.heap.size + 1 < w1.heap.size := lt_of_heap hc1
  clear hw
  have HC1 := Lib.hid hc1
  have HB1 := Lib.hid hb1
  clear hb1 hd1
  go_wp2_with fail
  refine (ref_schedule_bad b Hbl.out _).mono ?_
  rintro e w2 ⟨rfl, rfl⟩
  have y0 : w1.cell? ⟨w.heap.size + 1, 0, none⟩ = some (.int .i64 0) := cell_of hc1 0
  have y1 : w1.cell? ⟨w.heap.size + 1, 1, none⟩ = some (.int .i64 0) := cell_of hc1 1
  have y2 : w1.cell? ⟨w.heap.size + 1, 2, none⟩ = some (.int .i64 0) := cell_of hc1 2
  have y3 : w1.cell? ⟨w.heap.size + 1, 3, none⟩ = some (.int .i64 0) := cell_of hc1 3
  have y4 : w1.cell? ⟨w.heap.size + 1, 4, none⟩ = some (.int .i64 0) := cell_of hc1 4
  have y5 : w1.cell? ⟨w.heap.size + 1, 5, none⟩ = some (.int .i64 0) := cell_of hc1 5
  have y6 : w1.cell? ⟨w.heap.size + 1, 6, none⟩ = some (.int .i64 0) := cell_of hc1 6
  have y7 : w1.cell? ⟨w.heap.size + 1, 7, none⟩ = some (.int .i64 0) := cell_of hc1 7
  have f0 : w1.frozen? ⟨w.heap.size + 1, 0, none⟩ = false := frozen_of hc1 0
  have f1 : w1.frozen? ⟨w.heap.size + 1, 1, none⟩ = false := frozen_of hc1 1
  have f2 : w1.frozen? ⟨w.heap.size + 1, 2, none⟩ = false := frozen_of hc1 2
  have f3 : w1.frozen? ⟨w.heap.size + 1, 3, none⟩ = false := frozen_of hc1 3
  have f4 : w1.frozen? ⟨w.heap.size + 1, 4, none⟩ = false := frozen_of hc1 4
  have f5 : w1.frozen? ⟨w.heap.size + 1, 5, none⟩ = false := frozen_of hc1 5
  have f6 : w1.frozen? ⟨w.heap.size + 1, 6, none⟩ = false := frozen_of hc1 6
  have f7 : w1.frozen? ⟨w.heap.size + 1, 7, none⟩ = false := frozen_of hc1 7
  clear hc1
  go_wp2_with fail
  have hX := store8 w1 (w.heap.size + 1) 23 _ _ _ _ _ _ _ _ (.int .i64 0) (.int .i64 0) (.int .i64 0) (.int .i64 0) (.int .i64 0) (.int .i64 0) (.int .i64 0) (.int .i64 0) HC1.out
  have hXb := below8 w1 (w.heap.size + 1) (.int .i64 0) (.int .i64 0) (.int .i64 0) (.int .i64 0) (.int .i64 0) (.int .i64 0) (.int .i64 0) (.int .i64 0) HB1.out (by omega)
  exact bodyPost_ret (results30 _ _ (w.heap.size + 1) _ _ _ _ _ _ _ _ _ rfl rfl hX) rfl ⟨rfl, hXb⟩
set_option maxRecDepth 100000 in
set_option maxHeartbeats 4000000 in
theorem ref_compress_ok (s : Sha.St) (hs : s.ok) (b : ByteArray) (hbl : b.size = 64) (w : World) (hk : ∀ i, i < 64 → w.cell? ⟨1, i, none⟩ = some (.int .i64 (Sha.K.getD i 0 : Nat))) (h1 : 1 < w.heap.size) :
    Calls Tryd.prog 30 #[.agg #[.int .i64 s.a, .int .i64 s.b, .int .i64 s.c, .int .i64 s.d, .int .i64 s.e, .int .i64 s.f, .int .i64 s.g, .int .i64 s.h], .string b] w fun e w' => e = .returned (.tuple #[.agg (row64 (s.compress (byteAt b))), .int .i64 0]) ∧ Below w.heap.size w w' := by
  have Hs := Lib.hid hs
  have Hbl := Lib.hid hbl
  have HK := Lib.hid hk
  clear hs hbl hk
  go_enter Tryd.func30, Tryd.ntmps30
  go_wp2_with fail
  refine (ref_words (s.a : Int) s.b s.c s.d s.e s.f s.g s.h true (words_true Hs.out) _).mono ?_
  rintro e w1 ⟨rfl, hw⟩
  have hc1 : w1.heap[w.heap.size + 1]? = some (.cells #[.int .i64 0, .int .i64 0, .int .i64 0, .int .i64 0, .int .i64 0, .int .i64 0, .int .i64 0, .int .i64 0] 23 (0, 0)) := by
    rw [hw]; exact alloc_heap_old _ (alloc_heap_at _ _ _ (by simp))
  have hd1 : w1.heap[w.heap.size]? = some (.cells #[.int .i64 s.a, .int .i64 s.b, .int .i64 s.c, .int .i64 s.d, .int .i64 s.e, .int .i64 s.f, .int .i64 s.g, .int .i64 s.h] 23 (0, 0)) := by
    rw [hw]; exact alloc_heap_old _ (alloc_heap_old _ (alloc_heap_at _ _ _ rfl))
  have hb1 : Below w.heap.size w w1 := by
    rw [hw]; exact ((((Below.refl _ w).alloc (Nat.le_refl _) _).alloc (by simp) _).alloc (by simp; omega) _)
  have hz : w.heap.size + 1 < w1.heap.size := lt_of_heap hc1
  clear hw
  have HC1 := Lib.hid hc1
  have HD1 := Lib.hid hd1
  have HB1 := Lib.hid hb1
  clear hb1 hd1 hc1
  go_wp2_with fail
  refine (ref_schedule_ok b Hbl.out _).mono ?_
  rintro e w2 ⟨g, cap, rfl, hg1, hg2, hcg, hb2⟩
  have hd2 := (hb2.block _ (lt_of_heap HD1.out)).trans HD1.out
  have hc2 := (hb2.block _ (lt_of_heap HC1.out)).trans HC1.out
  have hw2 : Below w.heap.size w w2 := HB1.out.trans (hb2.mono HB1.out.size)
  have hz2 : w.heap.size + 1 < w2.heap.size := lt_of_heap hc2
  have HCG := Lib.hid hcg
  have y0 : w2.cell? ⟨w.heap.size, 0, none⟩ = some (.int .i64 s.a) := cell_of hd2 0
  have y1 : w2.cell? ⟨w.heap.size, 1, none⟩ = some (.int .i64 s.b) := cell_of hd2 1
  have y2 : w2.cell? ⟨w.heap.size, 2, none⟩ = some (.int .i64 s.c) := cell_of hd2 2
  have y3 : w2.cell? ⟨w.heap.size, 3, none⟩ = some (.int .i64 s.d) := cell_of hd2 3
  have y4 : w2.cell? ⟨w.heap.size, 4, none⟩ = some (.int .i64 s.e) := cell_of hd2 4
  have y5 : w2.cell? ⟨w.heap.size, 5, none⟩ = some (.int .i64 s.f) := cell_of hd2 5
  have y6 : w2.cell? ⟨w.heap.size, 6, none⟩ = some (.int .i64 s.g) := cell_of hd2 6
  have y7 : w2.cell? ⟨w.heap.size, 7, none⟩ = some (.int .i64 s.h) := cell_of hd2 7
  have HD2 := Lib.hid hd2
  have HC2 := Lib.hid hc2
  have HW2 := Lib.hid hw2
  clear hd2 hc2 hw2 hcg hb2 HD1 HC1 HB1 hz
  go_wp2_with fail
  clear y0 y1 y2 y3 y4 y5 y6 y7
  go_loopw [9] (fun i W => ∃ t : Nat, t ≤ 64 ∧ i = .int .i64 t ∧ W.heap[w2.heap.size]? = some (.cells (row64 (s.rounds (byteAt b) t)) 23 (0, 0)) ∧ Below w2.heap.size w2 W) (fun i _ => 64 - (intOf i).toNat)
  case atStart => exact ⟨0, by omega, rfl, alloc_heap_at _ _ _ rfl, (Below.refl _ _).alloc (Nat.le_refl _) _⟩
  case round =>
    obtain ⟨t, ht, rfl, hrow, hbw⟩ := hrel
    by_cases hlt : t < 64
    · have c0 : wr.cell? ⟨g, t, none⟩ = some (.int .i64 (Sha.word (byteAt b) t : Nat)) := (hbw.cell (p := ⟨g, t, none⟩) hg2).trans (HCG.out t hlt)
      have hk1 : wr.cell? ⟨1, t, none⟩ = some (.int .i64 (Sha.K.getD t 0 : Nat)) := (hbw.cell (p := ⟨1, t, none⟩) (show 1 < w2.heap.size by omega)).trans ((HW2.out.cell (p := ⟨1, t, none⟩) h1).trans (HK.out t hlt))
      have hwl := Sha.word_lt (byteAt b) (byteAt_lt b) t
      have hTok := Sha.St.rounds_ok Hs.out (byteAt b) t
      have hT1 : s.rounds (byteAt b) (t + 1) = (s.rounds (byteAt b) t).round (Sha.K.getD t 0) (Sha.word (byteAt b) t) := rfl
      obtain ⟨T, hT⟩ : ∃ T, s.rounds (byteAt b) t = T := ⟨_, rfl⟩
      rw [hT] at hrow hTok hT1
      obtain ⟨U, hU⟩ : ∃ U, T.round (Sha.K.getD t 0) (Sha.word (byteAt b) t) = U := ⟨_, rfl⟩
      have hcall := ref_round_ok T hTok t (Sha.word (byteAt b) t) hlt hwl
      rw [hU] at hT1 hcall
      generalize Sha.word (byteAt b) t = x at c0 hcall hU
      have i0 : (0 : Int) ≤ (t : Int) := by omega
      have i1 : (t : Int) < 64 := by omega
      have hbt : w2.heap.size < wr.heap.size := lt_of_heap hrow
      have h1w : 1 < wr.heap.size := by omega
      unfold row64 at hrow
      have y0 : wr.cell? ⟨w2.heap.size, 0, none⟩ = some (.int .i64 T.a) := cell_of hrow 0
      have y1 : wr.cell? ⟨w2.heap.size, 1, none⟩ = some (.int .i64 T.b) := cell_of hrow 1
      have y2 : wr.cell? ⟨w2.heap.size, 2, none⟩ = some (.int .i64 T.c) := cell_of hrow 2
      have y3 : wr.cell? ⟨w2.heap.size, 3, none⟩ = some (.int .i64 T.d) := cell_of hrow 3
      have y4 : wr.cell? ⟨w2.heap.size, 4, none⟩ = some (.int .i64 T.e) := cell_of hrow 4
      have y5 : wr.cell? ⟨w2.heap.size, 5, none⟩ = some (.int .i64 T.f) := cell_of hrow 5
      have y6 : wr.cell? ⟨w2.heap.size, 6, none⟩ = some (.int .i64 T.g) := cell_of hrow 6
      have y7 : wr.cell? ⟨w2.heap.size, 7, none⟩ = some (.int .i64 T.h) := cell_of hrow 7
      have HT1 := Lib.hid hT1
      have hcall2 : Calls Tryd.prog 28 #[.agg #[.int .i64 T.a, .int .i64 T.b, .int .i64 T.c, .int .i64 T.d, .int .i64 T.e, .int .i64 T.f, .int .i64 T.g, .int .i64 T.h], .int .i64 (t : Int), .int .i64 (x : Int)] wr.drew fun e w9 => e = .returned (.tuple #[.agg #[.int .i64 U.a, .int .i64 U.b, .int .i64 U.c, .int .i64 U.d, .int .i64 U.e, .int .i64 U.f, .int .i64 U.g, .int .i64 U.h], .int .i64 0]) ∧ w9.heap[w2.heap.size]? = some (.cells #[.int .i64 T.a, .int .i64 T.b, .int .i64 T.c, .int .i64 T.d, .int .i64 T.e, .int .i64 T.f, .int .i64 T.g, .int .i64 T.h] 23 (0, 0)) ∧ Below w2.heap.size w2 w9 :=
        (hcall wr.drew hk1 h1w).mono fun e w9 ⟨he, hb9⟩ => ⟨he, (hb9.block w2.heap.size hbt).trans hrow, hbw.drew.trans (hb9.mono (Nat.le_of_lt hbt))⟩
      have HCL := Lib.hid hcall2
      clear hk1 hT1 hrow hbw hcall hcall2 hT hU hTok hwl
      go_wp2_with fail
      go_region_with (go_at_call 28; refine HCL.out.mono ?_; rintro e w9 ⟨rfl, hc9, hb9⟩; have g0 := cell_of hc9 0; have f0 := frozen_of hc9 0; have g1 := cell_of hc9 1; have f1 := frozen_of hc9 1; have g2 := cell_of hc9 2; have f2 := frozen_of hc9 2; have g3 := cell_of hc9 3; have f3 := frozen_of hc9 3; have g4 := cell_of hc9 4; have f4 := frozen_of hc9 4; have g5 := cell_of hc9 5; have f5 := frozen_of hc9 5; have g6 := cell_of hc9 6; have f6 := frozen_of hc9 6; have g7 := cell_of hc9 7; have f7 := frozen_of hc9 7; have HC9 := Lib.hid hc9; have HB9 := Lib.hid hb9; clear hc9 hb9)
      all_goals
        clear g0 f0 g1 f1 g2 f2 g3 f3 g4 f4 g5 f5 g6 f6 g7 f7
        go_wp2_with fail
        go_roundw
        case rel =>
          refine ⟨t + 1, by omega, by go_num, ?_, ?_⟩
          · rw [HT1.out]
            exact store8 w9 w2.heap.size 23 _ _ _ _ _ _ _ _ (.int .i64 U.a) (.int .i64 U.b) (.int .i64 U.c) (.int .i64 U.d) (.int .i64 U.e) (.int .i64 U.f) (.int .i64 U.g) (.int .i64 U.h) HC9.out
          · exact below8 w9 w2.heap.size (.int .i64 U.a) (.int .i64 U.b) (.int .i64 U.c) (.int .i64 U.d) (.int .i64 U.e) (.int .i64 U.f) (.int .i64 U.g) (.int .i64 U.h) HB9.out (Nat.le_refl _)
        case measure => simp [intOf]; omega
    · obtain rfl : t = 64 := by omega
      obtain ⟨R, hR⟩ : ∃ R, s.rounds (byteAt b) 64 = R := ⟨_, rfl⟩
      have hRok := Sha.St.rounds_ok Hs.out (byteAt b) 64
      rw [hR] at hrow hRok
      have HR := Lib.hid hR
      have HROW := Lib.hid hrow
      have HBW := Lib.hid hbw
      have HRok := Lib.hid hRok
      clear hR hrow hbw hRok
      have e64 : ((64 : Nat) : Int) = 64 := rfl
      rw [e64]
      clear e64
      go_wp2_with fail
      go_loopw [10] (fun i W => ∃ t : Nat, t ≤ 8 ∧ i = .int .i64 t ∧ W.heap[w2.heap.size]? = some (.cells (mixRow (words8 R) (words8 s) t) 23 (0, 0)) ∧ Below w2.heap.size w2 W) (fun i _ => 8 - (intOf i).toNat)
      case atStart => exact ⟨0, by omega, rfl, by rw [mixRow_zero]; exact HROW.out, HBW.out⟩
      case round =>
        clear HROW HBW
        obtain ⟨t, ht, rfl, hrow, hbw⟩ := hrel
        by_cases hlt : t < 8
        · have c1 := cell_of hrow t
          rw [mixRow_get _ _ _ _ hlt, if_neg (Nat.lt_irrefl t)] at c1
          have hdw := (hbw.block w.heap.size (by omega)).trans HD2.out
          have c2 := cell_of hdw t
          rw [show (#[.int .i64 s.a, .int .i64 s.b, .int .i64 s.c, .int .i64 s.d, .int .i64 s.e, .int .i64 s.f, .int .i64 s.g, .int .i64 s.h] : Array Value) = row64 s from rfl, row64_get s t hlt] at c2
          have fz := frozen_of hrow t
          have hset := mixRow_set (words8 R) (words8 s) t hlt
          have l1 := words8_lt HRok.out t hlt
          have l2 := words8_lt Hs.out t hlt
          generalize (words8 R).getD t 0 = r at c1 hset l1
          generalize (words8 s).getD t 0 = q at c2 hset l2
          obtain ⟨u, hu⟩ : ∃ u, r + q = u := ⟨_, rfl⟩
          obtain ⟨V, hV⟩ : ∃ V, u % 4294967296 = V := ⟨_, rfl⟩
          rw [hu, hV] at hset
          have i0 : (0 : Int) ≤ (t : Int) := by omega
          have i1 : (t : Int) < 8 := by omega
          have f1 : IntKind.i64.wrap ((r : Int) + (q : Int)) = (u : Int) := by rw [IntWalk.i64_in _ (by omega)]; omega
          have f2 : (u : Int).tmod 4294967296 = (V : Int) := by rw [← hV, Int.tmod_eq_emod_of_nonneg (by omega)]; simp
          have f3 : (u : Int) % 4294967296 = (V : Int) := by rw [← hV]; simp
          have HROW := Lib.hid hrow
          have HBW := Lib.hid hbw
          have HSET := Lib.hid hset
          clear hrow hbw hset hu hV hdw
          go_wp2_with fail
          go_region
          all_goals
            clear f1 f2 f3 c1 c2 fz
            go_wp2_with fail
            go_roundw
            case rel =>
              refine ⟨t + 1, by omega, by go_num, ?_, ?_⟩
              · have := setCell_heap HROW.out t (.int .i64 (V : Int))
                rw [HSET.out] at this
                exact this
              · exact HBW.out.drew.setCell (Nat.le_refl _) _
            case measure => simp [intOf]; omega
        · obtain rfl : t = 8 := by omega
          rw [mixRow_eight] at hrow
          obtain ⟨A, hA⟩ : ∃ A, R.add s = A := ⟨_, rfl⟩
          rw [hA] at hrow
          have hcomp : s.compress (byteAt b) = A := by rw [← hA, ← HR.out]; rfl
          unfold row64 at hrow
          have hcw := (hbw.block (w.heap.size + 1) hz2).trans HC2.out
          have hbwl := hbw.size
          have hbb := HW2.out.trans (hbw.mono HW2.out.size)
          have y0 : wr.cell? ⟨w2.heap.size, 0, none⟩ = some (.int .i64 A.a) := cell_of hrow 0
          have y1 : wr.cell? ⟨w2.heap.size, 1, none⟩ = some (.int .i64 A.b) := cell_of hrow 1
          have y2 : wr.cell? ⟨w2.heap.size, 2, none⟩ = some (.int .i64 A.c) := cell_of hrow 2
          have y3 : wr.cell? ⟨w2.heap.size, 3, none⟩ = some (.int .i64 A.d) := cell_of hrow 3
          have y4 : wr.cell? ⟨w2.heap.size, 4, none⟩ = some (.int .i64 A.e) := cell_of hrow 4
          have y5 : wr.cell? ⟨w2.heap.size, 5, none⟩ = some (.int .i64 A.f) := cell_of hrow 5
          have y6 : wr.cell? ⟨w2.heap.size, 6, none⟩ = some (.int .i64 A.g) := cell_of hrow 6
          have y7 : wr.cell? ⟨w2.heap.size, 7, none⟩ = some (.int .i64 A.h) := cell_of hrow 7
          have z0 : wr.cell? ⟨w.heap.size + 1, 0, none⟩ = some (.int .i64 0) := cell_of hcw 0
          have z1 : wr.cell? ⟨w.heap.size + 1, 1, none⟩ = some (.int .i64 0) := cell_of hcw 1
          have z2 : wr.cell? ⟨w.heap.size + 1, 2, none⟩ = some (.int .i64 0) := cell_of hcw 2
          have z3 : wr.cell? ⟨w.heap.size + 1, 3, none⟩ = some (.int .i64 0) := cell_of hcw 3
          have z4 : wr.cell? ⟨w.heap.size + 1, 4, none⟩ = some (.int .i64 0) := cell_of hcw 4
          have z5 : wr.cell? ⟨w.heap.size + 1, 5, none⟩ = some (.int .i64 0) := cell_of hcw 5
          have z6 : wr.cell? ⟨w.heap.size + 1, 6, none⟩ = some (.int .i64 0) := cell_of hcw 6
          have z7 : wr.cell? ⟨w.heap.size + 1, 7, none⟩ = some (.int .i64 0) := cell_of hcw 7
          have f0 : wr.frozen? ⟨w.heap.size + 1, 0, none⟩ = false := frozen_of hcw 0
          have f1 : wr.frozen? ⟨w.heap.size + 1, 1, none⟩ = false := frozen_of hcw 1
          have f2 : wr.frozen? ⟨w.heap.size + 1, 2, none⟩ = false := frozen_of hcw 2
          have f3 : wr.frozen? ⟨w.heap.size + 1, 3, none⟩ = false := frozen_of hcw 3
          have f4 : wr.frozen? ⟨w.heap.size + 1, 4, none⟩ = false := frozen_of hcw 4
          have f5 : wr.frozen? ⟨w.heap.size + 1, 5, none⟩ = false := frozen_of hcw 5
          have f6 : wr.frozen? ⟨w.heap.size + 1, 6, none⟩ = false := frozen_of hcw 6
          have f7 : wr.frozen? ⟨w.heap.size + 1, 7, none⟩ = false := frozen_of hcw 7
          have HCW := Lib.hid hcw
          have HBB := Lib.hid hbb
          have HCOMP := Lib.hid hcomp
          clear hrow hbw hcw hbb hcomp hA
          go_wp2_with fail
          have hX := store8 wr (w.heap.size + 1) 23 _ _ _ _ _ _ _ _ (.int .i64 A.a) (.int .i64 A.b) (.int .i64 A.c) (.int .i64 A.d) (.int .i64 A.e) (.int .i64 A.f) (.int .i64 A.g) (.int .i64 A.h) HCW.out
          have hXb := below8 wr (w.heap.size + 1) (.int .i64 A.a) (.int .i64 A.b) (.int .i64 A.c) (.int .i64 A.d) (.int .i64 A.e) (.int .i64 A.f) (.int .i64 A.g) (.int .i64 A.h) HBB.out (by omega)
          exact bodyPost_ret (results30 _ _ (w.heap.size + 1) _ _ _ _ _ _ _ _ _ rfl rfl hX) rfl ⟨by rw [HCOMP.out]; rfl, hXb⟩
end Go.Proofs.YtfafidholldjlaaDoor
/- The document's answer for the rounds: Bytes. -/
set_option linter.unusedVariables false
set_option linter.unusedSimpArgs false
namespace Go.Proofs.YtfafidholldjlaaDoor
open Go.RowKit
theorem stFront (s : Sha.St) (t : Nat) (ht : t < 8) : front ⟨(stBytes s).toArray⟩ (4 * t) ++ ⟨(wordBytes ((words8 s).getD t 0)).toArray⟩ = front ⟨(stBytes s).toArray⟩ (4 * (t + 1)) := by
  apply ByteArray.ext
  rw [ByteArray.data_append]
  apply Array.toList_inj.1
  match t, ht with
  | 0, _ => rfl
  | 1, _ => rfl
  | 2, _ => rfl
  | 3, _ => rfl
  | 4, _ => rfl
  | 5, _ => rfl
  | 6, _ => rfl
  | 7, _ => rfl
set_option maxRecDepth 100000 in
theorem ref_bytes_bad (s0 s1 s2 s3 s4 s5 s6 s7 : Int) (hbad : ¬ Words8 s0 s1 s2 s3 s4 s5 s6 s7) (w : World) :
    Calls Tryd.prog 32 #[.agg #[.int .i64 s0, .int .i64 s1, .int .i64 s2, .int .i64 s3, .int .i64 s4, .int .i64 s5, .int .i64 s6, .int .i64 s7]] w fun e w' => e = .returned (.tuple #[.string ⟨#[]⟩, .int .i64 11]) ∧ Below w.heap.size w w' := by
  have Hb := Lib.hid hbad
  clear hbad
  go_enter Tryd.func32, Tryd.ntmps32
  go_wp2_with fail
  refine (ref_words s0 s1 s2 s3 s4 s5 s6 s7 false (words_false Hb.out) _).mono ?_
  rintro e w1 ⟨rfl, hw⟩
  have hb1 : Below w.heap.size w w1 := by
    rw [hw]; exact ((Below.refl _ w).alloc (Nat.le_refl _) _).alloc (by simp) _
  have HB1 := Lib.hid hb1
  clear hw hb1
  go_wp2_with fail
  exact bodyPost_ret (v := _) (by simp [results, Tryd.results32, go_sem]) rfl ⟨rfl, HB1.out⟩
set_option maxRecDepth 100000 in
set_option maxHeartbeats 1000000 in
theorem ref_bytes_ok (s : Sha.St) (hs : s.ok) (w : World) :
    Calls Tryd.prog 32 #[.agg #[.int .i64 s.a, .int .i64 s.b, .int .i64 s.c, .int .i64 s.d, .int .i64 s.e, .int .i64 s.f, .int .i64 s.g, .int .i64 s.h]] w fun e w' => e = .returned (.tuple #[.string ⟨(stBytes s).toArray⟩, .int .i64 0]) ∧ Below w.heap.size w w' := by
  have Hs := Lib.hid hs
  clear hs
  have hsz : (⟨(stBytes s).toArray⟩ : ByteArray).size = 32 := by
    show (stBytes s).toArray.size = 32
    simp [stBytes, wordBytes]
  obtain ⟨b, hb⟩ : ∃ b, (⟨(stBytes s).toArray⟩ : ByteArray) = b := ⟨_, rfl⟩
  have hst := fun t ht => stFront s t ht
  rw [hb] at hsz ⊢
  simp only [hb] at hst
  have HST := Lib.hid hst
  have HSZ := Lib.hid hsz
  clear hb hst hsz
  go_enter Tryd.func32, Tryd.ntmps32
  go_wp2_with fail
  refine (ref_words (s.a : Int) s.b s.c s.d s.e s.f s.g s.h true (words_true Hs.out) _).mono ?_
  rintro e w1 ⟨rfl, hw⟩
  have hd1 : w1.heap[w.heap.size]? = some (.cells #[.int .i64 s.a, .int .i64 s.b, .int .i64 s.c, .int .i64 s.d, .int .i64 s.e, .int .i64 s.f, .int .i64 s.g, .int .i64 s.h] 23 (0, 0)) := by
    rw [hw]; exact alloc_heap_old _ (alloc_heap_at _ _ _ rfl)
  have hb1 : Below w.heap.size w w1 := by
    rw [hw]; exact ((Below.refl _ w).alloc (Nat.le_refl _) _).alloc (by simp) _
  have HD1 := Lib.hid hd1
  have HB1 := Lib.hid hb1
  clear hw hd1 hb1
  go_wp2_with fail
  go_loopw [4, 5] (fun v i W => ∃ t : Nat, t ≤ 8 ∧ i = .int .i64 t ∧ v = .string (front b (4 * t)) ∧ Below w1.heap.size w1 W) (fun _ i _ => 8 - (intOf i).toNat)
  case atStart => exact ⟨0, by omega, rfl, by rw [front_zero], Below.refl _ _⟩
  case round =>
    obtain ⟨t, ht, rfl, rfl, hbl⟩ := hrel
    by_cases hlt : t < 8
    · have hdw := (hbl.block w.heap.size (lt_of_heap HD1.out)).trans HD1.out
      have c0 := cell_of hdw t
      rw [show (#[.int .i64 s.a, .int .i64 s.b, .int .i64 s.c, .int .i64 s.d, .int .i64 s.e, .int .i64 s.f, .int .i64 s.g, .int .i64 s.h] : Array Value) = row64 s from rfl, row64_get s t hlt] at c0
      have l0 := words8_lt Hs.out t hlt
      have hfw := HST.out t hlt
      have Hbl := Lib.hid hbl
      have HFW := Lib.hid hfw
      clear hbl hfw hdw
      obtain ⟨x, hx⟩ : ∃ x, (words8 s).getD t 0 = x := ⟨_, rfl⟩
      rw [hx] at c0 l0 HFW
      have Hx := Lib.hid hx
      clear hx
      have i0 : (0 : Int) ≤ (t : Int) := by omega
      have i1 : (t : Int) < 8 := by omega
      have hcv := conv_word (wr.alloc (.cells #[.int .u8 ((x : Int) / 16777216), .int .u8 ((x : Int) / 65536 % 256), .int .u8 ((x : Int) / 256 % 256), .int .u8 ((x : Int) % 256)] 5)).drew wr.heap.size x l0 (alloc_heap _ _)
      have hlw : w1.heap.size ≤ wr.heap.size := Hbl.out.size
      have hfs : ((front b (4 * t)).size : Int) ≤ 8388608 := by rw [front_size b _ (by have := HSZ.out; omega)]; omega
      have hws : ((⟨(wordBytes x).toArray⟩ : ByteArray).size : Int) ≤ 8388608 := by
        have e : (⟨(wordBytes x).toArray⟩ : ByteArray).size = 4 := rfl
        rw [e]; decide
      generalize (⟨(wordBytes x).toArray⟩ : ByteArray) = wb at hcv hws HFW
      generalize front b (4 * t) = fr at hfs HFW ⊢
      have hle : fr.size + wb.size ≤ 9223372036854775807 := by omega
      go_wp2_with fail
      go_region
      clear hcv
      go_wp2_with fail
      go_roundw
      case rel => exact ⟨t + 1, by omega, by go_num, by rw [HFW.out], (Hbl.out.alloc hlw _).drew⟩
      case measure => simp [intOf]; omega
    · obtain rfl : t = 8 := by omega
      have hfa : (front b (4 * 8)) = b := front_all b _ (by have := HSZ.out; omega)
      rw [hfa]
      have Hbl := Lib.hid hbl
      clear hfa hbl
      go_wp2_with fail
      exact bodyPost_ret (v := _) (by simp [results, Tryd.results32, go_sem]) rfl ⟨rfl, HB1.out.trans (Hbl.out.mono HB1.out.size)⟩
end Go.Proofs.YtfafidholldjlaaDoor
/- The law RoundsTells: what a call of it answers, for every state, every text, every two numbers. -/
set_option linter.unusedVariables false
set_option linter.unusedSimpArgs false
namespace Go.Proofs.YtfafidholldjlaaDoor
open Go.RowKit
/-- The document's constants, in the variable of its answer. -/
def RefK (w : World) : Prop := ∀ i, i < 64 → w.cell? ⟨1, i, none⟩ = some (.int .i64 (Sha.K.getD i 0 : Nat))
theorem RefK.below {w w' : World} (h : RefK w) (h1 : 1 < w.heap.size) {B : Nat} (hB : 1 < B) (hb : Below B w w') : RefK w' := fun i hi => (hb.cell (p := ⟨1, i, none⟩) hB).trans (h i hi)
theorem round_both (s0 s1 s2 s3 s4 s5 s6 s7 i x : Int) : ∃ r0 r1 r2 r3 r4 r5 r6 r7 er : Int,
    (∀ (B : Nat) (aw ab : Addr) (W : World), Glob B aw ab W → Calls Tryd.prog 27 #[.agg #[.int .i64 s0, .int .i64 s1, .int .i64 s2, .int .i64 s3, .int .i64 s4, .int .i64 s5, .int .i64 s6, .int .i64 s7], .int .i64 i, .int .i64 x] W fun e W' => e = .returned (.tuple #[.agg #[.int .i64 r0, .int .i64 r1, .int .i64 r2, .int .i64 r3, .int .i64 r4, .int .i64 r5, .int .i64 r6, .int .i64 r7], .int .i64 er]) ∧ Below W.heap.size W W') ∧
    (∀ (W : World), RefK W → 1 < W.heap.size → Calls Tryd.prog 28 #[.agg #[.int .i64 s0, .int .i64 s1, .int .i64 s2, .int .i64 s3, .int .i64 s4, .int .i64 s5, .int .i64 s6, .int .i64 s7], .int .i64 i, .int .i64 x] W fun e W' => e = .returned (.tuple #[.agg #[.int .i64 r0, .int .i64 r1, .int .i64 r2, .int .i64 r3, .int .i64 r4, .int .i64 r5, .int .i64 r6, .int .i64 r7], .int .i64 er]) ∧ Below W.heap.size W W') := by
  by_cases hW : Words8 s0 s1 s2 s3 s4 s5 s6 s7
  · by_cases hn : (0 ≤ i ∧ i < 64) ∧ (0 ≤ x ∧ x ≤ 4294967295)
    · obtain ⟨s, hs, rfl, rfl, rfl, rfl, rfl, rfl, rfl, rfl⟩ := words8_st hW
      obtain ⟨n, rfl⟩ := Int.eq_ofNat_of_zero_le hn.1.1
      obtain ⟨m, rfl⟩ := Int.eq_ofNat_of_zero_le hn.2.1
      refine ⟨(s.round (Sha.K.getD n 0) m).a, (s.round (Sha.K.getD n 0) m).b, (s.round (Sha.K.getD n 0) m).c, (s.round (Sha.K.getD n 0) m).d, (s.round (Sha.K.getD n 0) m).e, (s.round (Sha.K.getD n 0) m).f, (s.round (Sha.K.getD n 0) m).g, (s.round (Sha.K.getD n 0) m).h, 0, ?_, ?_⟩
      · intro B aw ab W hG
        exact round_ok s hs n m (by omega) (by omega) hG
      · intro W hK h1
        exact ref_round_ok s hs n m (by omega) (by omega) W (hK n (by omega)) h1
    · refine ⟨0, 0, 0, 0, 0, 0, 0, 0, 11, ?_, ?_⟩
      · intro B aw ab W hG
        obtain ⟨s, hs, rfl, rfl, rfl, rfl, rfl, rfl, rfl, rfl⟩ := words8_st hW
        exact round_num s hs i x (fun e => hn ⟨⟨e.1, e.2.1⟩, e.2.2⟩) hG
      · intro W hK h1
        exact ref_round_bad s0 s1 s2 s3 s4 s5 s6 s7 i x (fun e => hn ⟨⟨e.2.1.1, by have := e.2.1.2; omega⟩, e.2.2⟩) W
  · refine ⟨0, 0, 0, 0, 0, 0, 0, 0, 11, ?_, ?_⟩
    · intro B aw ab W hG
      exact round_word s0 s1 s2 s3 s4 s5 s6 s7 i x hW hG
    · intro W hK h1
      exact ref_round_bad s0 s1 s2 s3 s4 s5 s6 s7 i x (fun e => hW e.1) W
theorem compress_both (s0 s1 s2 s3 s4 s5 s6 s7 : Int) (b : ByteArray) : ∃ r0 r1 r2 r3 r4 r5 r6 r7 er : Int,
    (∀ (B : Nat) (aw ab : Addr) (W : World), Glob B aw ab W → Calls Tryd.prog 29 #[.agg #[.int .i64 s0, .int .i64 s1, .int .i64 s2, .int .i64 s3, .int .i64 s4, .int .i64 s5, .int .i64 s6, .int .i64 s7], .string b] W fun e W' => e = .returned (.tuple #[.agg #[.int .i64 r0, .int .i64 r1, .int .i64 r2, .int .i64 r3, .int .i64 r4, .int .i64 r5, .int .i64 r6, .int .i64 r7], .int .i64 er]) ∧ Below W.heap.size W W') ∧
    (∀ (W : World), RefK W → 1 < W.heap.size → Calls Tryd.prog 30 #[.agg #[.int .i64 s0, .int .i64 s1, .int .i64 s2, .int .i64 s3, .int .i64 s4, .int .i64 s5, .int .i64 s6, .int .i64 s7], .string b] W fun e W' => e = .returned (.tuple #[.agg #[.int .i64 r0, .int .i64 r1, .int .i64 r2, .int .i64 r3, .int .i64 r4, .int .i64 r5, .int .i64 r6, .int .i64 r7], .int .i64 er]) ∧ Below W.heap.size W W') := by
  by_cases hW : Words8 s0 s1 s2 s3 s4 s5 s6 s7
  · obtain ⟨s, hs, rfl, rfl, rfl, rfl, rfl, rfl, rfl, rfl⟩ := words8_st hW
    by_cases hb : b.size = 64
    · refine ⟨(s.compress (byteAt b)).a, (s.compress (byteAt b)).b, (s.compress (byteAt b)).c, (s.compress (byteAt b)).d, (s.compress (byteAt b)).e, (s.compress (byteAt b)).f, (s.compress (byteAt b)).g, (s.compress (byteAt b)).h, 0, ?_, ?_⟩
      · intro B aw ab W hG
        exact compress_ok hG s hs b hb
      · intro W hK h1
        exact ref_compress_ok s hs b hb W hK h1
    · refine ⟨0, 0, 0, 0, 0, 0, 0, 0, 10, ?_, ?_⟩
      · intro B aw ab W hG
        exact compress_block s hs hG b hb
      · intro W hK h1
        exact ref_compress_block s hs b hb W
  · refine ⟨0, 0, 0, 0, 0, 0, 0, 0, 11, ?_, ?_⟩
    · intro B aw ab W hG
      exact compress_word s0 s1 s2 s3 s4 s5 s6 s7 hW hG b
    · intro W hK h1
      exact ref_compress_word s0 s1 s2 s3 s4 s5 s6 s7 hW b W
theorem bytes_both (s0 s1 s2 s3 s4 s5 s6 s7 : Int) : ∃ (t : ByteArray) (er : Int),
    (∀ (B : Nat) (aw ab : Addr) (W : World), Glob B aw ab W → Calls Tryd.prog 31 #[.agg #[.int .i64 s0, .int .i64 s1, .int .i64 s2, .int .i64 s3, .int .i64 s4, .int .i64 s5, .int .i64 s6, .int .i64 s7]] W fun e W' => e = .returned (.tuple #[.string t, .int .i64 er]) ∧ Below W.heap.size W W') ∧
    (∀ W : World, Calls Tryd.prog 32 #[.agg #[.int .i64 s0, .int .i64 s1, .int .i64 s2, .int .i64 s3, .int .i64 s4, .int .i64 s5, .int .i64 s6, .int .i64 s7]] W fun e W' => e = .returned (.tuple #[.string t, .int .i64 er]) ∧ Below W.heap.size W W') := by
  by_cases hW : Words8 s0 s1 s2 s3 s4 s5 s6 s7
  · obtain ⟨s, hs, rfl, rfl, rfl, rfl, rfl, rfl, rfl, rfl⟩ := words8_st hW
    refine ⟨⟨(stBytes s).toArray⟩, 0, ?_, ?_⟩
    · intro B aw ab W hG
      exact bytes_ok s hs hG
    · intro W
      exact ref_bytes_ok s hs W
  · refine ⟨⟨#[]⟩, 11, ?_, ?_⟩
    · intro B aw ab W hG
      exact bytes_bad s0 s1 s2 s3 s4 s5 s6 s7 hW hG
    · intro W
      exact ref_bytes_bad s0 s1 s2 s3 s4 s5 s6 s7 hW W
theorem drewN_below {B : Nat} {a b : World} (h : Below B a b) (hB : B ≤ b.heap.size) (n : Nat) : Below B a (b.drewN n) := h.trans ((Far.refl NoneD b).drewN n |>.to_below hB (fun _ _ e => e))
set_option maxRecDepth 100000 in
set_option maxHeartbeats 2000000 in
theorem tells_bad (s0 s1 s2 s3 s4 s5 s6 s7 i x : Int) (b : ByteArray) (hm : b.size ≤ maxLen) (h64 : (front b 70).size ≠ 64) {B : Nat} {aw ab : Addr} {w : World} (h : Glob B aw ab w) (hk : RefK w) :
    Calls Tryd.prog 3 #[.agg #[.int .i64 s0, .int .i64 s1, .int .i64 s2, .int .i64 s3, .int .i64 s4, .int .i64 s5, .int .i64 s6, .int .i64 s7], .string b, .int .i64 i, .int .i64 x] w fun e w' => e = .returned (.bool true) ∧ Below w.heap.size w w' := by
  have H := Lib.hid h
  have HM := Lib.hid hm
  have H64 := Lib.hid h64
  have HK := Lib.hid hk
  have h1 : 1 < w.heap.size := by have := h.pos; omega
  obtain ⟨r0, r1, r2, r3, r4, r5, r6, r7, er, hr1, hr2⟩ := round_both s0 s1 s2 s3 s4 s5 s6 s7 i x
  obtain ⟨q0, q1, q2, q3, q4, q5, q6, q7, eq', hq1, hq2⟩ := compress_both s0 s1 s2 s3 s4 s5 s6 s7 (front b 70)
  obtain ⟨bt, eb, ht1, ht2⟩ := bytes_both s0 s1 s2 s3 s4 s5 s6 s7
  have A1 := Lib.hid hr1
  have A2 := Lib.hid hr2
  have A3 := Lib.hid hq1
  have A4 := Lib.hid hq2
  have A5 := Lib.hid ht1
  have A6 := Lib.hid ht2
  clear h hm h64 hk hr1 hr2 hq1 hq2 ht1 ht2
  go_enter Tryd.func3, Tryd.ntmps3
  go_wp2_with fail
  refine (shown_any (H.out.below ((Below.refl B w).alloc H.out.size _))).mono ?_
  rintro e w1 ⟨rfl, hb1⟩
  have hc1 := (hb1.block w.heap.size (by simp)).trans (alloc_heap_at w (.cells #[.int .i64 s0, .int .i64 s1, .int .i64 s2, .int .i64 s3, .int .i64 s4, .int .i64 s5, .int .i64 s6, .int .i64 s7] 23) _ rfl)
  have hw1 : Below w.heap.size w w1 := ((Below.refl _ w).alloc (Nat.le_refl _) _).trans (hb1.mono (by simp))
  have FS := Lib.hid hc1
  have HW := Lib.hid hw1
  clear hb1 hc1 hw1
  go_wp2_with fail
  refine (cut_any b HM.out _).mono ?_
  rintro e w2 ⟨rfl, rfl⟩
  obtain ⟨bl, hbl⟩ : ∃ x, front b 70 = x := ⟨_, rfl⟩
  rw [hbl] at A3 A4 H64 ⊢
  clear hbl
  go_wp2_with fail
  refine (schedule_bad (H.out.below (HW.out.mono H.out.size)) bl H64.out).mono ?_
  rintro e w2 ⟨rfl, rfl⟩
  go_wp2_with fail
  refine (ref_schedule_bad bl H64.out _).mono ?_
  rintro e w2 ⟨rfl, rfl⟩
  have y0 : w1.cell? ⟨w.heap.size, 0, none⟩ = some (.int .i64 s0) := cell_of FS.out 0
  have y1 : w1.cell? ⟨w.heap.size, 1, none⟩ = some (.int .i64 s1) := cell_of FS.out 1
  have y2 : w1.cell? ⟨w.heap.size, 2, none⟩ = some (.int .i64 s2) := cell_of FS.out 2
  have y3 : w1.cell? ⟨w.heap.size, 3, none⟩ = some (.int .i64 s3) := cell_of FS.out 3
  have y4 : w1.cell? ⟨w.heap.size, 4, none⟩ = some (.int .i64 s4) := cell_of FS.out 4
  have y5 : w1.cell? ⟨w.heap.size, 5, none⟩ = some (.int .i64 s5) := cell_of FS.out 5
  have y6 : w1.cell? ⟨w.heap.size, 6, none⟩ = some (.int .i64 s6) := cell_of FS.out 6
  have y7 : w1.cell? ⟨w.heap.size, 7, none⟩ = some (.int .i64 s7) := cell_of FS.out 7
  go_wp2_with fail
  refine (A1.out _ _ _ _ (H.out.below (HW.out.mono H.out.size))).mono ?_
  rintro e w2 ⟨rfl, hb2⟩
  have xS := (hb2.block _ (lt_of_heap FS.out)).trans FS.out
  clear FS
  have FS := Lib.hid xS
  clear xS
  have hw2 := HW.out.trans (hb2.mono HW.out.size)
  clear HW
  have HW := Lib.hid hw2
  clear hb2 hw2
  clear y0 y1 y2 y3 y4 y5 y6 y7
  go_upto_region 6 with (fail)
  have xS := alloc_heap_old (.cells #[.int .i64 r0, .int .i64 r1, .int .i64 r2, .int .i64 r3, .int .i64 r4, .int .i64 r5, .int .i64 r6, .int .i64 r7] 23) FS.out
  have xN := alloc_heap_at w2 (.cells #[.int .i64 r0, .int .i64 r1, .int .i64 r2, .int .i64 r3, .int .i64 r4, .int .i64 r5, .int .i64 r6, .int .i64 r7] 23) _ rfl
  have hW := HW.out.alloc HW.out.size (.cells #[.int .i64 r0, .int .i64 r1, .int .i64 r2, .int .i64 r3, .int .i64 r4, .int .i64 r5, .int .i64 r6, .int .i64 r7] 23)
  generalize w2.alloc (.cells #[.int .i64 r0, .int .i64 r1, .int .i64 r2, .int .i64 r3, .int .i64 r4, .int .i64 r5, .int .i64 r6, .int .i64 r7] 23) = w3 at xS xN hW ⊢
  clear HW FS 
  have FS := Lib.hid xS
  have FP := Lib.hid xN
  have HW := Lib.hid hW
  clear xS xN hW
  have y0 : w3.cell? ⟨w.heap.size, 0, none⟩ = some (.int .i64 s0) := cell_of FS.out 0
  have y1 : w3.cell? ⟨w.heap.size, 1, none⟩ = some (.int .i64 s1) := cell_of FS.out 1
  have y2 : w3.cell? ⟨w.heap.size, 2, none⟩ = some (.int .i64 s2) := cell_of FS.out 2
  have y3 : w3.cell? ⟨w.heap.size, 3, none⟩ = some (.int .i64 s3) := cell_of FS.out 3
  have y4 : w3.cell? ⟨w.heap.size, 4, none⟩ = some (.int .i64 s4) := cell_of FS.out 4
  have y5 : w3.cell? ⟨w.heap.size, 5, none⟩ = some (.int .i64 s5) := cell_of FS.out 5
  have y6 : w3.cell? ⟨w.heap.size, 6, none⟩ = some (.int .i64 s6) := cell_of FS.out 6
  have y7 : w3.cell? ⟨w.heap.size, 7, none⟩ = some (.int .i64 s7) := cell_of FS.out 7
  go_wp2_with fail
  refine (A2.out _ (HK.out.below h1 h1 HW.out) (Nat.lt_of_lt_of_le h1 HW.out.size)).mono ?_
  rintro e w4 ⟨rfl, hb4⟩
  have xS := (hb4.block _ (lt_of_heap FS.out)).trans FS.out
  clear FS
  have FS := Lib.hid xS
  clear xS
  have xP := (hb4.block _ (lt_of_heap FP.out)).trans FP.out
  clear FP
  have FP := Lib.hid xP
  clear xP
  have hw4 := HW.out.trans (hb4.mono HW.out.size)
  clear HW
  have HW := Lib.hid hw4
  clear hb4 hw4
  clear y0 y1 y2 y3 y4 y5 y6 y7
  go_upto_region 7 with (fail)
  have xS := alloc_heap_old (.cells #[.int .i64 r0, .int .i64 r1, .int .i64 r2, .int .i64 r3, .int .i64 r4, .int .i64 r5, .int .i64 r6, .int .i64 r7] 23) FS.out
  have xP := alloc_heap_old (.cells #[.int .i64 r0, .int .i64 r1, .int .i64 r2, .int .i64 r3, .int .i64 r4, .int .i64 r5, .int .i64 r6, .int .i64 r7] 23) FP.out
  have xN := alloc_heap_at w4 (.cells #[.int .i64 r0, .int .i64 r1, .int .i64 r2, .int .i64 r3, .int .i64 r4, .int .i64 r5, .int .i64 r6, .int .i64 r7] 23) _ rfl
  have hW := HW.out.alloc HW.out.size (.cells #[.int .i64 r0, .int .i64 r1, .int .i64 r2, .int .i64 r3, .int .i64 r4, .int .i64 r5, .int .i64 r6, .int .i64 r7] 23)
  generalize w4.alloc (.cells #[.int .i64 r0, .int .i64 r1, .int .i64 r2, .int .i64 r3, .int .i64 r4, .int .i64 r5, .int .i64 r6, .int .i64 r7] 23) = w5 at xS xP xN hW ⊢
  clear HW FS FP 
  have FS := Lib.hid xS
  have FP := Lib.hid xP
  have FQ := Lib.hid xN
  have HW := Lib.hid hW
  clear xS xP xN hW
  have y0 : w5.cell? ⟨w.heap.size, 0, none⟩ = some (.int .i64 s0) := cell_of FS.out 0
  have y1 : w5.cell? ⟨w.heap.size, 1, none⟩ = some (.int .i64 s1) := cell_of FS.out 1
  have y2 : w5.cell? ⟨w.heap.size, 2, none⟩ = some (.int .i64 s2) := cell_of FS.out 2
  have y3 : w5.cell? ⟨w.heap.size, 3, none⟩ = some (.int .i64 s3) := cell_of FS.out 3
  have y4 : w5.cell? ⟨w.heap.size, 4, none⟩ = some (.int .i64 s4) := cell_of FS.out 4
  have y5 : w5.cell? ⟨w.heap.size, 5, none⟩ = some (.int .i64 s5) := cell_of FS.out 5
  have y6 : w5.cell? ⟨w.heap.size, 6, none⟩ = some (.int .i64 s6) := cell_of FS.out 6
  have y7 : w5.cell? ⟨w.heap.size, 7, none⟩ = some (.int .i64 s7) := cell_of FS.out 7
  go_wp2_with fail
  refine (A3.out _ _ _ _ (H.out.below (HW.out.mono H.out.size))).mono ?_
  rintro e w6 ⟨rfl, hb6⟩
  have xS := (hb6.block _ (lt_of_heap FS.out)).trans FS.out
  clear FS
  have FS := Lib.hid xS
  clear xS
  have xP := (hb6.block _ (lt_of_heap FP.out)).trans FP.out
  clear FP
  have FP := Lib.hid xP
  clear xP
  have xQ := (hb6.block _ (lt_of_heap FQ.out)).trans FQ.out
  clear FQ
  have FQ := Lib.hid xQ
  clear xQ
  have hw6 := HW.out.trans (hb6.mono HW.out.size)
  clear HW
  have HW := Lib.hid hw6
  clear hb6 hw6
  clear y0 y1 y2 y3 y4 y5 y6 y7
  go_upto_region 8 with (fail)
  have xS := alloc_heap_old (.cells #[.int .i64 q0, .int .i64 q1, .int .i64 q2, .int .i64 q3, .int .i64 q4, .int .i64 q5, .int .i64 q6, .int .i64 q7] 23) FS.out
  have xP := alloc_heap_old (.cells #[.int .i64 q0, .int .i64 q1, .int .i64 q2, .int .i64 q3, .int .i64 q4, .int .i64 q5, .int .i64 q6, .int .i64 q7] 23) FP.out
  have xQ := alloc_heap_old (.cells #[.int .i64 q0, .int .i64 q1, .int .i64 q2, .int .i64 q3, .int .i64 q4, .int .i64 q5, .int .i64 q6, .int .i64 q7] 23) FQ.out
  have xN := alloc_heap_at w6 (.cells #[.int .i64 q0, .int .i64 q1, .int .i64 q2, .int .i64 q3, .int .i64 q4, .int .i64 q5, .int .i64 q6, .int .i64 q7] 23) _ rfl
  have hW := HW.out.alloc HW.out.size (.cells #[.int .i64 q0, .int .i64 q1, .int .i64 q2, .int .i64 q3, .int .i64 q4, .int .i64 q5, .int .i64 q6, .int .i64 q7] 23)
  generalize w6.alloc (.cells #[.int .i64 q0, .int .i64 q1, .int .i64 q2, .int .i64 q3, .int .i64 q4, .int .i64 q5, .int .i64 q6, .int .i64 q7] 23) = w7 at xS xP xQ xN hW ⊢
  clear HW FS FP FQ 
  have FS := Lib.hid xS
  have FP := Lib.hid xP
  have FQ := Lib.hid xQ
  have FT := Lib.hid xN
  have HW := Lib.hid hW
  clear xS xP xQ xN hW
  have y0 : w7.cell? ⟨w.heap.size, 0, none⟩ = some (.int .i64 s0) := cell_of FS.out 0
  have y1 : w7.cell? ⟨w.heap.size, 1, none⟩ = some (.int .i64 s1) := cell_of FS.out 1
  have y2 : w7.cell? ⟨w.heap.size, 2, none⟩ = some (.int .i64 s2) := cell_of FS.out 2
  have y3 : w7.cell? ⟨w.heap.size, 3, none⟩ = some (.int .i64 s3) := cell_of FS.out 3
  have y4 : w7.cell? ⟨w.heap.size, 4, none⟩ = some (.int .i64 s4) := cell_of FS.out 4
  have y5 : w7.cell? ⟨w.heap.size, 5, none⟩ = some (.int .i64 s5) := cell_of FS.out 5
  have y6 : w7.cell? ⟨w.heap.size, 6, none⟩ = some (.int .i64 s6) := cell_of FS.out 6
  have y7 : w7.cell? ⟨w.heap.size, 7, none⟩ = some (.int .i64 s7) := cell_of FS.out 7
  go_wp2_with fail
  refine (A4.out _ (HK.out.below h1 h1 HW.out) (Nat.lt_of_lt_of_le h1 HW.out.size)).mono ?_
  rintro e w8 ⟨rfl, hb8⟩
  have xS := (hb8.block _ (lt_of_heap FS.out)).trans FS.out
  clear FS
  have FS := Lib.hid xS
  clear xS
  have xP := (hb8.block _ (lt_of_heap FP.out)).trans FP.out
  clear FP
  have FP := Lib.hid xP
  clear xP
  have xQ := (hb8.block _ (lt_of_heap FQ.out)).trans FQ.out
  clear FQ
  have FQ := Lib.hid xQ
  clear xQ
  have xT := (hb8.block _ (lt_of_heap FT.out)).trans FT.out
  clear FT
  have FT := Lib.hid xT
  clear xT
  have hw8 := HW.out.trans (hb8.mono HW.out.size)
  clear HW
  have HW := Lib.hid hw8
  clear hb8 hw8
  clear y0 y1 y2 y3 y4 y5 y6 y7
  go_upto_region 9 with (fail)
  have xS := alloc_heap_old (.cells #[.int .i64 q0, .int .i64 q1, .int .i64 q2, .int .i64 q3, .int .i64 q4, .int .i64 q5, .int .i64 q6, .int .i64 q7] 23) FS.out
  have xP := alloc_heap_old (.cells #[.int .i64 q0, .int .i64 q1, .int .i64 q2, .int .i64 q3, .int .i64 q4, .int .i64 q5, .int .i64 q6, .int .i64 q7] 23) FP.out
  have xQ := alloc_heap_old (.cells #[.int .i64 q0, .int .i64 q1, .int .i64 q2, .int .i64 q3, .int .i64 q4, .int .i64 q5, .int .i64 q6, .int .i64 q7] 23) FQ.out
  have xT := alloc_heap_old (.cells #[.int .i64 q0, .int .i64 q1, .int .i64 q2, .int .i64 q3, .int .i64 q4, .int .i64 q5, .int .i64 q6, .int .i64 q7] 23) FT.out
  have xN := alloc_heap_at w8 (.cells #[.int .i64 q0, .int .i64 q1, .int .i64 q2, .int .i64 q3, .int .i64 q4, .int .i64 q5, .int .i64 q6, .int .i64 q7] 23) _ rfl
  have hW := HW.out.alloc HW.out.size (.cells #[.int .i64 q0, .int .i64 q1, .int .i64 q2, .int .i64 q3, .int .i64 q4, .int .i64 q5, .int .i64 q6, .int .i64 q7] 23)
  generalize w8.alloc (.cells #[.int .i64 q0, .int .i64 q1, .int .i64 q2, .int .i64 q3, .int .i64 q4, .int .i64 q5, .int .i64 q6, .int .i64 q7] 23) = w9 at xS xP xQ xT xN hW ⊢
  clear HW FS FP FQ FT 
  have FS := Lib.hid xS
  have FP := Lib.hid xP
  have FQ := Lib.hid xQ
  have FT := Lib.hid xT
  have FU := Lib.hid xN
  have HW := Lib.hid hW
  clear xS xP xQ xT xN hW
  have y0 : w9.cell? ⟨w.heap.size, 0, none⟩ = some (.int .i64 s0) := cell_of FS.out 0
  have y1 : w9.cell? ⟨w.heap.size, 1, none⟩ = some (.int .i64 s1) := cell_of FS.out 1
  have y2 : w9.cell? ⟨w.heap.size, 2, none⟩ = some (.int .i64 s2) := cell_of FS.out 2
  have y3 : w9.cell? ⟨w.heap.size, 3, none⟩ = some (.int .i64 s3) := cell_of FS.out 3
  have y4 : w9.cell? ⟨w.heap.size, 4, none⟩ = some (.int .i64 s4) := cell_of FS.out 4
  have y5 : w9.cell? ⟨w.heap.size, 5, none⟩ = some (.int .i64 s5) := cell_of FS.out 5
  have y6 : w9.cell? ⟨w.heap.size, 6, none⟩ = some (.int .i64 s6) := cell_of FS.out 6
  have y7 : w9.cell? ⟨w.heap.size, 7, none⟩ = some (.int .i64 s7) := cell_of FS.out 7
  go_wp2_with fail
  refine (A5.out _ _ _ _ (H.out.below (HW.out.mono H.out.size))).mono ?_
  rintro e w10 ⟨rfl, hb10⟩
  have xS := (hb10.block _ (lt_of_heap FS.out)).trans FS.out
  clear FS
  have FS := Lib.hid xS
  clear xS
  have xP := (hb10.block _ (lt_of_heap FP.out)).trans FP.out
  clear FP
  have FP := Lib.hid xP
  clear xP
  have xQ := (hb10.block _ (lt_of_heap FQ.out)).trans FQ.out
  clear FQ
  have FQ := Lib.hid xQ
  clear xQ
  have xT := (hb10.block _ (lt_of_heap FT.out)).trans FT.out
  clear FT
  have FT := Lib.hid xT
  clear xT
  have xU := (hb10.block _ (lt_of_heap FU.out)).trans FU.out
  clear FU
  have FU := Lib.hid xU
  clear xU
  have hw10 := HW.out.trans (hb10.mono HW.out.size)
  clear HW
  have HW := Lib.hid hw10
  clear hb10 hw10
  clear y0 y1 y2 y3 y4 y5 y6 y7
  have y0 : w10.cell? ⟨w.heap.size, 0, none⟩ = some (.int .i64 s0) := cell_of FS.out 0
  have y1 : w10.cell? ⟨w.heap.size, 1, none⟩ = some (.int .i64 s1) := cell_of FS.out 1
  have y2 : w10.cell? ⟨w.heap.size, 2, none⟩ = some (.int .i64 s2) := cell_of FS.out 2
  have y3 : w10.cell? ⟨w.heap.size, 3, none⟩ = some (.int .i64 s3) := cell_of FS.out 3
  have y4 : w10.cell? ⟨w.heap.size, 4, none⟩ = some (.int .i64 s4) := cell_of FS.out 4
  have y5 : w10.cell? ⟨w.heap.size, 5, none⟩ = some (.int .i64 s5) := cell_of FS.out 5
  have y6 : w10.cell? ⟨w.heap.size, 6, none⟩ = some (.int .i64 s6) := cell_of FS.out 6
  have y7 : w10.cell? ⟨w.heap.size, 7, none⟩ = some (.int .i64 s7) := cell_of FS.out 7
  go_wp2_with fail
  refine (A6.out _).mono ?_
  rintro e w11 ⟨rfl, hb11⟩
  have xS := (hb11.block _ (lt_of_heap FS.out)).trans FS.out
  clear FS
  have FS := Lib.hid xS
  clear xS
  have xP := (hb11.block _ (lt_of_heap FP.out)).trans FP.out
  clear FP
  have FP := Lib.hid xP
  clear xP
  have xQ := (hb11.block _ (lt_of_heap FQ.out)).trans FQ.out
  clear FQ
  have FQ := Lib.hid xQ
  clear xQ
  have xT := (hb11.block _ (lt_of_heap FT.out)).trans FT.out
  clear FT
  have FT := Lib.hid xT
  clear xT
  have xU := (hb11.block _ (lt_of_heap FU.out)).trans FU.out
  clear FU
  have FU := Lib.hid xU
  clear xU
  have hw11 := HW.out.trans (hb11.mono HW.out.size)
  clear HW
  have HW := Lib.hid hw11
  clear hb11 hw11
  clear y0 y1 y2 y3 y4 y5 y6 y7
  go_wp2_with fail
  refine (first_any _).mono ?_
  rintro e w12 ⟨rfl, hb12⟩
  have xS := (hb12.block _ (lt_of_heap FS.out)).trans FS.out
  clear FS
  have FS := Lib.hid xS
  clear xS
  have xP := (hb12.block _ (lt_of_heap FP.out)).trans FP.out
  clear FP
  have FP := Lib.hid xP
  clear xP
  have xQ := (hb12.block _ (lt_of_heap FQ.out)).trans FQ.out
  clear FQ
  have FQ := Lib.hid xQ
  clear xQ
  have xT := (hb12.block _ (lt_of_heap FT.out)).trans FT.out
  clear FT
  have FT := Lib.hid xT
  clear xT
  have xU := (hb12.block _ (lt_of_heap FU.out)).trans FU.out
  clear FU
  have FU := Lib.hid xU
  clear xU
  have hw12 := HW.out.trans (hb12.mono HW.out.size)
  clear HW
  have HW := Lib.hid hw12
  clear hb12 hw12
  go_wp2_with fail
  refine (ref_first _).mono ?_
  rintro e w13 ⟨rfl, hb13⟩
  have xS := (hb13.block _ (lt_of_heap FS.out)).trans FS.out
  clear FS
  have FS := Lib.hid xS
  clear xS
  have xP := (hb13.block _ (lt_of_heap FP.out)).trans FP.out
  clear FP
  have FP := Lib.hid xP
  clear xP
  have xQ := (hb13.block _ (lt_of_heap FQ.out)).trans FQ.out
  clear FQ
  have FQ := Lib.hid xQ
  clear xQ
  have xT := (hb13.block _ (lt_of_heap FT.out)).trans FT.out
  clear FT
  have FT := Lib.hid xT
  clear xT
  have xU := (hb13.block _ (lt_of_heap FU.out)).trans FU.out
  clear FU
  have FU := Lib.hid xU
  clear xU
  have hw13 := HW.out.trans (hb13.mono HW.out.size)
  clear HW
  have HW := Lib.hid hw13
  clear hb13 hw13
  have he1 : eq8 [1779033703, 3144134277, 1013904242, 2773480762, 1359893119, 2600822924, 528734635, 1541459225] [1779033703, 3144134277, 1013904242, 2773480762, 1359893119, 2600822924, 528734635, 1541459225] = true := eq8_refl _
  go_wp2_with fail
  refine (ref_ints_nil _).mono ?_
  rintro e w99 ⟨rfl, rfl⟩
  have hwq := HW.out
  have HWQ := Lib.hid hwq
  clear hwq
  have y0 : w13.cell? ⟨w2.heap.size, 0, none⟩ = some (.int .i64 r0) := cell_of FP.out 0
  have y1 : w13.cell? ⟨w2.heap.size, 1, none⟩ = some (.int .i64 r1) := cell_of FP.out 1
  have y2 : w13.cell? ⟨w2.heap.size, 2, none⟩ = some (.int .i64 r2) := cell_of FP.out 2
  have y3 : w13.cell? ⟨w2.heap.size, 3, none⟩ = some (.int .i64 r3) := cell_of FP.out 3
  have y4 : w13.cell? ⟨w2.heap.size, 4, none⟩ = some (.int .i64 r4) := cell_of FP.out 4
  have y5 : w13.cell? ⟨w2.heap.size, 5, none⟩ = some (.int .i64 r5) := cell_of FP.out 5
  have y6 : w13.cell? ⟨w2.heap.size, 6, none⟩ = some (.int .i64 r6) := cell_of FP.out 6
  have y7 : w13.cell? ⟨w2.heap.size, 7, none⟩ = some (.int .i64 r7) := cell_of FP.out 7
  have z0 : w13.cell? ⟨w4.heap.size, 0, none⟩ = some (.int .i64 r0) := cell_of FQ.out 0
  have z1 : w13.cell? ⟨w4.heap.size, 1, none⟩ = some (.int .i64 r1) := cell_of FQ.out 1
  have z2 : w13.cell? ⟨w4.heap.size, 2, none⟩ = some (.int .i64 r2) := cell_of FQ.out 2
  have z3 : w13.cell? ⟨w4.heap.size, 3, none⟩ = some (.int .i64 r3) := cell_of FQ.out 3
  have z4 : w13.cell? ⟨w4.heap.size, 4, none⟩ = some (.int .i64 r4) := cell_of FQ.out 4
  have z5 : w13.cell? ⟨w4.heap.size, 5, none⟩ = some (.int .i64 r5) := cell_of FQ.out 5
  have z6 : w13.cell? ⟨w4.heap.size, 6, none⟩ = some (.int .i64 r6) := cell_of FQ.out 6
  have z7 : w13.cell? ⟨w4.heap.size, 7, none⟩ = some (.int .i64 r7) := cell_of FQ.out 7
  have u0 : w13.cell? ⟨w6.heap.size, 0, none⟩ = some (.int .i64 q0) := cell_of FT.out 0
  have u1 : w13.cell? ⟨w6.heap.size, 1, none⟩ = some (.int .i64 q1) := cell_of FT.out 1
  have u2 : w13.cell? ⟨w6.heap.size, 2, none⟩ = some (.int .i64 q2) := cell_of FT.out 2
  have u3 : w13.cell? ⟨w6.heap.size, 3, none⟩ = some (.int .i64 q3) := cell_of FT.out 3
  have u4 : w13.cell? ⟨w6.heap.size, 4, none⟩ = some (.int .i64 q4) := cell_of FT.out 4
  have u5 : w13.cell? ⟨w6.heap.size, 5, none⟩ = some (.int .i64 q5) := cell_of FT.out 5
  have u6 : w13.cell? ⟨w6.heap.size, 6, none⟩ = some (.int .i64 q6) := cell_of FT.out 6
  have u7 : w13.cell? ⟨w6.heap.size, 7, none⟩ = some (.int .i64 q7) := cell_of FT.out 7
  have v0 : w13.cell? ⟨w8.heap.size, 0, none⟩ = some (.int .i64 q0) := cell_of FU.out 0
  have v1 : w13.cell? ⟨w8.heap.size, 1, none⟩ = some (.int .i64 q1) := cell_of FU.out 1
  have v2 : w13.cell? ⟨w8.heap.size, 2, none⟩ = some (.int .i64 q2) := cell_of FU.out 2
  have v3 : w13.cell? ⟨w8.heap.size, 3, none⟩ = some (.int .i64 q3) := cell_of FU.out 3
  have v4 : w13.cell? ⟨w8.heap.size, 4, none⟩ = some (.int .i64 q4) := cell_of FU.out 4
  have v5 : w13.cell? ⟨w8.heap.size, 5, none⟩ = some (.int .i64 q5) := cell_of FU.out 5
  have v6 : w13.cell? ⟨w8.heap.size, 6, none⟩ = some (.int .i64 q6) := cell_of FU.out 6
  have v7 : w13.cell? ⟨w8.heap.size, 7, none⟩ = some (.int .i64 q7) := cell_of FU.out 7
  have he2 : eq8 [r0, r1, r2, r3, r4, r5, r6, r7] [r0, r1, r2, r3, r4, r5, r6, r7] = true := eq8_refl _
  have he3 : eq8 [q0, q1, q2, q3, q4, q5, q6, q7] [q0, q1, q2, q3, q4, q5, q6, q7] = true := eq8_refl _
  go_wp2_with fail
  exact bodyPost_ret (v := .bool true) (by simp [results, Tryd.results3, go_sem]) rfl ⟨rfl, HWQ.out⟩
set_option maxRecDepth 100000 in
set_option maxHeartbeats 2000000 in
theorem tells_ok (s0 s1 s2 s3 s4 s5 s6 s7 i x : Int) (b : ByteArray) (hm : b.size ≤ maxLen) (h64 : (front b 70).size = 64) {B : Nat} {aw ab : Addr} {w : World} (h : Glob B aw ab w) (hk : RefK w) :
    Calls Tryd.prog 3 #[.agg #[.int .i64 s0, .int .i64 s1, .int .i64 s2, .int .i64 s3, .int .i64 s4, .int .i64 s5, .int .i64 s6, .int .i64 s7], .string b, .int .i64 i, .int .i64 x] w fun e w' => e = .returned (.bool true) ∧ Below w.heap.size w w' := by
  have H := Lib.hid h
  have HM := Lib.hid hm
  have H64 := Lib.hid h64
  have HK := Lib.hid hk
  have h1 : 1 < w.heap.size := by have := h.pos; omega
  obtain ⟨r0, r1, r2, r3, r4, r5, r6, r7, er, hr1, hr2⟩ := round_both s0 s1 s2 s3 s4 s5 s6 s7 i x
  obtain ⟨q0, q1, q2, q3, q4, q5, q6, q7, eq', hq1, hq2⟩ := compress_both s0 s1 s2 s3 s4 s5 s6 s7 (front b 70)
  obtain ⟨bt, eb, ht1, ht2⟩ := bytes_both s0 s1 s2 s3 s4 s5 s6 s7
  have A1 := Lib.hid hr1
  have A2 := Lib.hid hr2
  have A3 := Lib.hid hq1
  have A4 := Lib.hid hq2
  have A5 := Lib.hid ht1
  have A6 := Lib.hid ht2
  clear h hm h64 hk hr1 hr2 hq1 hq2 ht1 ht2
  go_enter Tryd.func3, Tryd.ntmps3
  go_wp2_with fail
  refine (shown_any (H.out.below ((Below.refl B w).alloc H.out.size _))).mono ?_
  rintro e w1 ⟨rfl, hb1⟩
  have hc1 := (hb1.block w.heap.size (by simp)).trans (alloc_heap_at w (.cells #[.int .i64 s0, .int .i64 s1, .int .i64 s2, .int .i64 s3, .int .i64 s4, .int .i64 s5, .int .i64 s6, .int .i64 s7] 23) _ rfl)
  have hw1 : Below w.heap.size w w1 := ((Below.refl _ w).alloc (Nat.le_refl _) _).trans (hb1.mono (by simp))
  have FS := Lib.hid hc1
  have HW := Lib.hid hw1
  clear hb1 hc1 hw1
  go_wp2_with fail
  refine (cut_any b HM.out _).mono ?_
  rintro e w2 ⟨rfl, rfl⟩
  obtain ⟨bl, hbl⟩ : ∃ x, front b 70 = x := ⟨_, rfl⟩
  rw [hbl] at A3 A4 H64 ⊢
  clear hbl
  go_wp2_with fail
  refine (schedule_ok (H.out.below (HW.out.mono H.out.size)) bl H64.out).mono ?_
  rintro e w2 ⟨ga, ca, rfl, hga, zga, rga, hb2⟩
  have xS := (hb2.block _ (lt_of_heap FS.out)).trans FS.out
  clear FS
  have FS := Lib.hid xS
  clear xS
  have hw2 := HW.out.trans (hb2.mono HW.out.size)
  clear HW
  have HW := Lib.hid hw2
  clear hb2 hw2
  have Rga := Lib.hid rga
  have Zga := Lib.hid zga
  clear rga zga hga
  go_wp2_with fail
  refine (ref_schedule_ok bl H64.out _).mono ?_
  rintro e w3 ⟨gb, cb, rfl, hgb, zgb, rgb, hb3⟩
  have xS := (hb3.block _ (lt_of_heap FS.out)).trans FS.out
  clear FS
  have FS := Lib.hid xS
  clear xS
  have xga := fun k hk => (hb3.cell (p := ⟨ga, k, none⟩) Zga.out).trans (Rga.out k hk)
  have yga := Nat.lt_of_lt_of_le Zga.out hb3.size
  clear Rga Zga
  have Rga := Lib.hid xga
  have Zga := Lib.hid yga
  clear xga yga
  have hw3 := HW.out.trans (hb3.mono HW.out.size)
  clear HW
  have HW := Lib.hid hw3
  clear hb3 hw3
  have Rgb := Lib.hid rgb
  have Zgb := Lib.hid zgb
  clear rgb zgb hgb
  have y0 : w3.cell? ⟨w.heap.size, 0, none⟩ = some (.int .i64 s0) := cell_of FS.out 0
  have y1 : w3.cell? ⟨w.heap.size, 1, none⟩ = some (.int .i64 s1) := cell_of FS.out 1
  have y2 : w3.cell? ⟨w.heap.size, 2, none⟩ = some (.int .i64 s2) := cell_of FS.out 2
  have y3 : w3.cell? ⟨w.heap.size, 3, none⟩ = some (.int .i64 s3) := cell_of FS.out 3
  have y4 : w3.cell? ⟨w.heap.size, 4, none⟩ = some (.int .i64 s4) := cell_of FS.out 4
  have y5 : w3.cell? ⟨w.heap.size, 5, none⟩ = some (.int .i64 s5) := cell_of FS.out 5
  have y6 : w3.cell? ⟨w.heap.size, 6, none⟩ = some (.int .i64 s6) := cell_of FS.out 6
  have y7 : w3.cell? ⟨w.heap.size, 7, none⟩ = some (.int .i64 s7) := cell_of FS.out 7
  go_wp2_with fail
  refine (A1.out _ _ _ _ (H.out.below (HW.out.mono H.out.size))).mono ?_
  rintro e w4 ⟨rfl, hb4⟩
  have xS := (hb4.block _ (lt_of_heap FS.out)).trans FS.out
  clear FS
  have FS := Lib.hid xS
  clear xS
  have xga := fun k hk => (hb4.cell (p := ⟨ga, k, none⟩) Zga.out).trans (Rga.out k hk)
  have yga := Nat.lt_of_lt_of_le Zga.out hb4.size
  clear Rga Zga
  have Rga := Lib.hid xga
  have Zga := Lib.hid yga
  clear xga yga
  have xgb := fun k hk => (hb4.cell (p := ⟨gb, k, none⟩) Zgb.out).trans (Rgb.out k hk)
  have ygb := Nat.lt_of_lt_of_le Zgb.out hb4.size
  clear Rgb Zgb
  have Rgb := Lib.hid xgb
  have Zgb := Lib.hid ygb
  clear xgb ygb
  have hw4 := HW.out.trans (hb4.mono HW.out.size)
  clear HW
  have HW := Lib.hid hw4
  clear hb4 hw4
  clear y0 y1 y2 y3 y4 y5 y6 y7
  go_upto_region 6 with (fail)
  have xS := alloc_heap_old (.cells #[.int .i64 r0, .int .i64 r1, .int .i64 r2, .int .i64 r3, .int .i64 r4, .int .i64 r5, .int .i64 r6, .int .i64 r7] 23) FS.out
  have xN := alloc_heap_at w4 (.cells #[.int .i64 r0, .int .i64 r1, .int .i64 r2, .int .i64 r3, .int .i64 r4, .int .i64 r5, .int .i64 r6, .int .i64 r7] 23) _ rfl
  have hW := HW.out.alloc HW.out.size (.cells #[.int .i64 r0, .int .i64 r1, .int .i64 r2, .int .i64 r3, .int .i64 r4, .int .i64 r5, .int .i64 r6, .int .i64 r7] 23)
  have xga := fun k hk => new_past (o := (.cells #[.int .i64 r0, .int .i64 r1, .int .i64 r2, .int .i64 r3, .int .i64 r4, .int .i64 r5, .int .i64 r6, .int .i64 r7] 23)) Zga.out (Rga.out k hk)
  have yga : ga < (w4.alloc (.cells #[.int .i64 r0, .int .i64 r1, .int .i64 r2, .int .i64 r3, .int .i64 r4, .int .i64 r5, .int .i64 r6, .int .i64 r7] 23)).heap.size := by have := Zga.out; simp; omega
  have xgb := fun k hk => new_past (o := (.cells #[.int .i64 r0, .int .i64 r1, .int .i64 r2, .int .i64 r3, .int .i64 r4, .int .i64 r5, .int .i64 r6, .int .i64 r7] 23)) Zgb.out (Rgb.out k hk)
  have ygb : gb < (w4.alloc (.cells #[.int .i64 r0, .int .i64 r1, .int .i64 r2, .int .i64 r3, .int .i64 r4, .int .i64 r5, .int .i64 r6, .int .i64 r7] 23)).heap.size := by have := Zgb.out; simp; omega
  generalize w4.alloc (.cells #[.int .i64 r0, .int .i64 r1, .int .i64 r2, .int .i64 r3, .int .i64 r4, .int .i64 r5, .int .i64 r6, .int .i64 r7] 23) = w5 at xS xN hW xga yga xgb ygb ⊢
  clear HW FS Rga Zga Rgb Zgb
  have FS := Lib.hid xS
  have Rga := Lib.hid xga
  have Zga := Lib.hid yga
  have Rgb := Lib.hid xgb
  have Zgb := Lib.hid ygb
  have FP := Lib.hid xN
  have HW := Lib.hid hW
  clear xS xN hW xga yga xgb ygb
  have y0 : w5.cell? ⟨w.heap.size, 0, none⟩ = some (.int .i64 s0) := cell_of FS.out 0
  have y1 : w5.cell? ⟨w.heap.size, 1, none⟩ = some (.int .i64 s1) := cell_of FS.out 1
  have y2 : w5.cell? ⟨w.heap.size, 2, none⟩ = some (.int .i64 s2) := cell_of FS.out 2
  have y3 : w5.cell? ⟨w.heap.size, 3, none⟩ = some (.int .i64 s3) := cell_of FS.out 3
  have y4 : w5.cell? ⟨w.heap.size, 4, none⟩ = some (.int .i64 s4) := cell_of FS.out 4
  have y5 : w5.cell? ⟨w.heap.size, 5, none⟩ = some (.int .i64 s5) := cell_of FS.out 5
  have y6 : w5.cell? ⟨w.heap.size, 6, none⟩ = some (.int .i64 s6) := cell_of FS.out 6
  have y7 : w5.cell? ⟨w.heap.size, 7, none⟩ = some (.int .i64 s7) := cell_of FS.out 7
  go_wp2_with fail
  refine (A2.out _ (HK.out.below h1 h1 HW.out) (Nat.lt_of_lt_of_le h1 HW.out.size)).mono ?_
  rintro e w6 ⟨rfl, hb6⟩
  have xS := (hb6.block _ (lt_of_heap FS.out)).trans FS.out
  clear FS
  have FS := Lib.hid xS
  clear xS
  have xP := (hb6.block _ (lt_of_heap FP.out)).trans FP.out
  clear FP
  have FP := Lib.hid xP
  clear xP
  have xga := fun k hk => (hb6.cell (p := ⟨ga, k, none⟩) Zga.out).trans (Rga.out k hk)
  have yga := Nat.lt_of_lt_of_le Zga.out hb6.size
  clear Rga Zga
  have Rga := Lib.hid xga
  have Zga := Lib.hid yga
  clear xga yga
  have xgb := fun k hk => (hb6.cell (p := ⟨gb, k, none⟩) Zgb.out).trans (Rgb.out k hk)
  have ygb := Nat.lt_of_lt_of_le Zgb.out hb6.size
  clear Rgb Zgb
  have Rgb := Lib.hid xgb
  have Zgb := Lib.hid ygb
  clear xgb ygb
  have hw6 := HW.out.trans (hb6.mono HW.out.size)
  clear HW
  have HW := Lib.hid hw6
  clear hb6 hw6
  clear y0 y1 y2 y3 y4 y5 y6 y7
  go_upto_region 7 with (fail)
  have xS := alloc_heap_old (.cells #[.int .i64 r0, .int .i64 r1, .int .i64 r2, .int .i64 r3, .int .i64 r4, .int .i64 r5, .int .i64 r6, .int .i64 r7] 23) FS.out
  have xP := alloc_heap_old (.cells #[.int .i64 r0, .int .i64 r1, .int .i64 r2, .int .i64 r3, .int .i64 r4, .int .i64 r5, .int .i64 r6, .int .i64 r7] 23) FP.out
  have xN := alloc_heap_at w6 (.cells #[.int .i64 r0, .int .i64 r1, .int .i64 r2, .int .i64 r3, .int .i64 r4, .int .i64 r5, .int .i64 r6, .int .i64 r7] 23) _ rfl
  have hW := HW.out.alloc HW.out.size (.cells #[.int .i64 r0, .int .i64 r1, .int .i64 r2, .int .i64 r3, .int .i64 r4, .int .i64 r5, .int .i64 r6, .int .i64 r7] 23)
  have xga := fun k hk => new_past (o := (.cells #[.int .i64 r0, .int .i64 r1, .int .i64 r2, .int .i64 r3, .int .i64 r4, .int .i64 r5, .int .i64 r6, .int .i64 r7] 23)) Zga.out (Rga.out k hk)
  have yga : ga < (w6.alloc (.cells #[.int .i64 r0, .int .i64 r1, .int .i64 r2, .int .i64 r3, .int .i64 r4, .int .i64 r5, .int .i64 r6, .int .i64 r7] 23)).heap.size := by have := Zga.out; simp; omega
  have xgb := fun k hk => new_past (o := (.cells #[.int .i64 r0, .int .i64 r1, .int .i64 r2, .int .i64 r3, .int .i64 r4, .int .i64 r5, .int .i64 r6, .int .i64 r7] 23)) Zgb.out (Rgb.out k hk)
  have ygb : gb < (w6.alloc (.cells #[.int .i64 r0, .int .i64 r1, .int .i64 r2, .int .i64 r3, .int .i64 r4, .int .i64 r5, .int .i64 r6, .int .i64 r7] 23)).heap.size := by have := Zgb.out; simp; omega
  generalize w6.alloc (.cells #[.int .i64 r0, .int .i64 r1, .int .i64 r2, .int .i64 r3, .int .i64 r4, .int .i64 r5, .int .i64 r6, .int .i64 r7] 23) = w7 at xS xP xN hW xga yga xgb ygb ⊢
  clear HW FS FP Rga Zga Rgb Zgb
  have FS := Lib.hid xS
  have FP := Lib.hid xP
  have Rga := Lib.hid xga
  have Zga := Lib.hid yga
  have Rgb := Lib.hid xgb
  have Zgb := Lib.hid ygb
  have FQ := Lib.hid xN
  have HW := Lib.hid hW
  clear xS xP xN hW xga yga xgb ygb
  have y0 : w7.cell? ⟨w.heap.size, 0, none⟩ = some (.int .i64 s0) := cell_of FS.out 0
  have y1 : w7.cell? ⟨w.heap.size, 1, none⟩ = some (.int .i64 s1) := cell_of FS.out 1
  have y2 : w7.cell? ⟨w.heap.size, 2, none⟩ = some (.int .i64 s2) := cell_of FS.out 2
  have y3 : w7.cell? ⟨w.heap.size, 3, none⟩ = some (.int .i64 s3) := cell_of FS.out 3
  have y4 : w7.cell? ⟨w.heap.size, 4, none⟩ = some (.int .i64 s4) := cell_of FS.out 4
  have y5 : w7.cell? ⟨w.heap.size, 5, none⟩ = some (.int .i64 s5) := cell_of FS.out 5
  have y6 : w7.cell? ⟨w.heap.size, 6, none⟩ = some (.int .i64 s6) := cell_of FS.out 6
  have y7 : w7.cell? ⟨w.heap.size, 7, none⟩ = some (.int .i64 s7) := cell_of FS.out 7
  go_wp2_with fail
  refine (A3.out _ _ _ _ (H.out.below (HW.out.mono H.out.size))).mono ?_
  rintro e w8 ⟨rfl, hb8⟩
  have xS := (hb8.block _ (lt_of_heap FS.out)).trans FS.out
  clear FS
  have FS := Lib.hid xS
  clear xS
  have xP := (hb8.block _ (lt_of_heap FP.out)).trans FP.out
  clear FP
  have FP := Lib.hid xP
  clear xP
  have xQ := (hb8.block _ (lt_of_heap FQ.out)).trans FQ.out
  clear FQ
  have FQ := Lib.hid xQ
  clear xQ
  have xga := fun k hk => (hb8.cell (p := ⟨ga, k, none⟩) Zga.out).trans (Rga.out k hk)
  have yga := Nat.lt_of_lt_of_le Zga.out hb8.size
  clear Rga Zga
  have Rga := Lib.hid xga
  have Zga := Lib.hid yga
  clear xga yga
  have xgb := fun k hk => (hb8.cell (p := ⟨gb, k, none⟩) Zgb.out).trans (Rgb.out k hk)
  have ygb := Nat.lt_of_lt_of_le Zgb.out hb8.size
  clear Rgb Zgb
  have Rgb := Lib.hid xgb
  have Zgb := Lib.hid ygb
  clear xgb ygb
  have hw8 := HW.out.trans (hb8.mono HW.out.size)
  clear HW
  have HW := Lib.hid hw8
  clear hb8 hw8
  clear y0 y1 y2 y3 y4 y5 y6 y7
  go_upto_region 8 with (fail)
  have xS := alloc_heap_old (.cells #[.int .i64 q0, .int .i64 q1, .int .i64 q2, .int .i64 q3, .int .i64 q4, .int .i64 q5, .int .i64 q6, .int .i64 q7] 23) FS.out
  have xP := alloc_heap_old (.cells #[.int .i64 q0, .int .i64 q1, .int .i64 q2, .int .i64 q3, .int .i64 q4, .int .i64 q5, .int .i64 q6, .int .i64 q7] 23) FP.out
  have xQ := alloc_heap_old (.cells #[.int .i64 q0, .int .i64 q1, .int .i64 q2, .int .i64 q3, .int .i64 q4, .int .i64 q5, .int .i64 q6, .int .i64 q7] 23) FQ.out
  have xN := alloc_heap_at w8 (.cells #[.int .i64 q0, .int .i64 q1, .int .i64 q2, .int .i64 q3, .int .i64 q4, .int .i64 q5, .int .i64 q6, .int .i64 q7] 23) _ rfl
  have hW := HW.out.alloc HW.out.size (.cells #[.int .i64 q0, .int .i64 q1, .int .i64 q2, .int .i64 q3, .int .i64 q4, .int .i64 q5, .int .i64 q6, .int .i64 q7] 23)
  have xga := fun k hk => new_past (o := (.cells #[.int .i64 q0, .int .i64 q1, .int .i64 q2, .int .i64 q3, .int .i64 q4, .int .i64 q5, .int .i64 q6, .int .i64 q7] 23)) Zga.out (Rga.out k hk)
  have yga : ga < (w8.alloc (.cells #[.int .i64 q0, .int .i64 q1, .int .i64 q2, .int .i64 q3, .int .i64 q4, .int .i64 q5, .int .i64 q6, .int .i64 q7] 23)).heap.size := by have := Zga.out; simp; omega
  have xgb := fun k hk => new_past (o := (.cells #[.int .i64 q0, .int .i64 q1, .int .i64 q2, .int .i64 q3, .int .i64 q4, .int .i64 q5, .int .i64 q6, .int .i64 q7] 23)) Zgb.out (Rgb.out k hk)
  have ygb : gb < (w8.alloc (.cells #[.int .i64 q0, .int .i64 q1, .int .i64 q2, .int .i64 q3, .int .i64 q4, .int .i64 q5, .int .i64 q6, .int .i64 q7] 23)).heap.size := by have := Zgb.out; simp; omega
  generalize w8.alloc (.cells #[.int .i64 q0, .int .i64 q1, .int .i64 q2, .int .i64 q3, .int .i64 q4, .int .i64 q5, .int .i64 q6, .int .i64 q7] 23) = w9 at xS xP xQ xN hW xga yga xgb ygb ⊢
  clear HW FS FP FQ Rga Zga Rgb Zgb
  have FS := Lib.hid xS
  have FP := Lib.hid xP
  have FQ := Lib.hid xQ
  have Rga := Lib.hid xga
  have Zga := Lib.hid yga
  have Rgb := Lib.hid xgb
  have Zgb := Lib.hid ygb
  have FT := Lib.hid xN
  have HW := Lib.hid hW
  clear xS xP xQ xN hW xga yga xgb ygb
  have y0 : w9.cell? ⟨w.heap.size, 0, none⟩ = some (.int .i64 s0) := cell_of FS.out 0
  have y1 : w9.cell? ⟨w.heap.size, 1, none⟩ = some (.int .i64 s1) := cell_of FS.out 1
  have y2 : w9.cell? ⟨w.heap.size, 2, none⟩ = some (.int .i64 s2) := cell_of FS.out 2
  have y3 : w9.cell? ⟨w.heap.size, 3, none⟩ = some (.int .i64 s3) := cell_of FS.out 3
  have y4 : w9.cell? ⟨w.heap.size, 4, none⟩ = some (.int .i64 s4) := cell_of FS.out 4
  have y5 : w9.cell? ⟨w.heap.size, 5, none⟩ = some (.int .i64 s5) := cell_of FS.out 5
  have y6 : w9.cell? ⟨w.heap.size, 6, none⟩ = some (.int .i64 s6) := cell_of FS.out 6
  have y7 : w9.cell? ⟨w.heap.size, 7, none⟩ = some (.int .i64 s7) := cell_of FS.out 7
  go_wp2_with fail
  refine (A4.out _ (HK.out.below h1 h1 HW.out) (Nat.lt_of_lt_of_le h1 HW.out.size)).mono ?_
  rintro e w10 ⟨rfl, hb10⟩
  have xS := (hb10.block _ (lt_of_heap FS.out)).trans FS.out
  clear FS
  have FS := Lib.hid xS
  clear xS
  have xP := (hb10.block _ (lt_of_heap FP.out)).trans FP.out
  clear FP
  have FP := Lib.hid xP
  clear xP
  have xQ := (hb10.block _ (lt_of_heap FQ.out)).trans FQ.out
  clear FQ
  have FQ := Lib.hid xQ
  clear xQ
  have xT := (hb10.block _ (lt_of_heap FT.out)).trans FT.out
  clear FT
  have FT := Lib.hid xT
  clear xT
  have xga := fun k hk => (hb10.cell (p := ⟨ga, k, none⟩) Zga.out).trans (Rga.out k hk)
  have yga := Nat.lt_of_lt_of_le Zga.out hb10.size
  clear Rga Zga
  have Rga := Lib.hid xga
  have Zga := Lib.hid yga
  clear xga yga
  have xgb := fun k hk => (hb10.cell (p := ⟨gb, k, none⟩) Zgb.out).trans (Rgb.out k hk)
  have ygb := Nat.lt_of_lt_of_le Zgb.out hb10.size
  clear Rgb Zgb
  have Rgb := Lib.hid xgb
  have Zgb := Lib.hid ygb
  clear xgb ygb
  have hw10 := HW.out.trans (hb10.mono HW.out.size)
  clear HW
  have HW := Lib.hid hw10
  clear hb10 hw10
  clear y0 y1 y2 y3 y4 y5 y6 y7
  go_upto_region 9 with (fail)
  have xS := alloc_heap_old (.cells #[.int .i64 q0, .int .i64 q1, .int .i64 q2, .int .i64 q3, .int .i64 q4, .int .i64 q5, .int .i64 q6, .int .i64 q7] 23) FS.out
  have xP := alloc_heap_old (.cells #[.int .i64 q0, .int .i64 q1, .int .i64 q2, .int .i64 q3, .int .i64 q4, .int .i64 q5, .int .i64 q6, .int .i64 q7] 23) FP.out
  have xQ := alloc_heap_old (.cells #[.int .i64 q0, .int .i64 q1, .int .i64 q2, .int .i64 q3, .int .i64 q4, .int .i64 q5, .int .i64 q6, .int .i64 q7] 23) FQ.out
  have xT := alloc_heap_old (.cells #[.int .i64 q0, .int .i64 q1, .int .i64 q2, .int .i64 q3, .int .i64 q4, .int .i64 q5, .int .i64 q6, .int .i64 q7] 23) FT.out
  have xN := alloc_heap_at w10 (.cells #[.int .i64 q0, .int .i64 q1, .int .i64 q2, .int .i64 q3, .int .i64 q4, .int .i64 q5, .int .i64 q6, .int .i64 q7] 23) _ rfl
  have hW := HW.out.alloc HW.out.size (.cells #[.int .i64 q0, .int .i64 q1, .int .i64 q2, .int .i64 q3, .int .i64 q4, .int .i64 q5, .int .i64 q6, .int .i64 q7] 23)
  have xga := fun k hk => new_past (o := (.cells #[.int .i64 q0, .int .i64 q1, .int .i64 q2, .int .i64 q3, .int .i64 q4, .int .i64 q5, .int .i64 q6, .int .i64 q7] 23)) Zga.out (Rga.out k hk)
  have yga : ga < (w10.alloc (.cells #[.int .i64 q0, .int .i64 q1, .int .i64 q2, .int .i64 q3, .int .i64 q4, .int .i64 q5, .int .i64 q6, .int .i64 q7] 23)).heap.size := by have := Zga.out; simp; omega
  have xgb := fun k hk => new_past (o := (.cells #[.int .i64 q0, .int .i64 q1, .int .i64 q2, .int .i64 q3, .int .i64 q4, .int .i64 q5, .int .i64 q6, .int .i64 q7] 23)) Zgb.out (Rgb.out k hk)
  have ygb : gb < (w10.alloc (.cells #[.int .i64 q0, .int .i64 q1, .int .i64 q2, .int .i64 q3, .int .i64 q4, .int .i64 q5, .int .i64 q6, .int .i64 q7] 23)).heap.size := by have := Zgb.out; simp; omega
  generalize w10.alloc (.cells #[.int .i64 q0, .int .i64 q1, .int .i64 q2, .int .i64 q3, .int .i64 q4, .int .i64 q5, .int .i64 q6, .int .i64 q7] 23) = w11 at xS xP xQ xT xN hW xga yga xgb ygb ⊢
  clear HW FS FP FQ FT Rga Zga Rgb Zgb
  have FS := Lib.hid xS
  have FP := Lib.hid xP
  have FQ := Lib.hid xQ
  have FT := Lib.hid xT
  have Rga := Lib.hid xga
  have Zga := Lib.hid yga
  have Rgb := Lib.hid xgb
  have Zgb := Lib.hid ygb
  have FU := Lib.hid xN
  have HW := Lib.hid hW
  clear xS xP xQ xT xN hW xga yga xgb ygb
  have y0 : w11.cell? ⟨w.heap.size, 0, none⟩ = some (.int .i64 s0) := cell_of FS.out 0
  have y1 : w11.cell? ⟨w.heap.size, 1, none⟩ = some (.int .i64 s1) := cell_of FS.out 1
  have y2 : w11.cell? ⟨w.heap.size, 2, none⟩ = some (.int .i64 s2) := cell_of FS.out 2
  have y3 : w11.cell? ⟨w.heap.size, 3, none⟩ = some (.int .i64 s3) := cell_of FS.out 3
  have y4 : w11.cell? ⟨w.heap.size, 4, none⟩ = some (.int .i64 s4) := cell_of FS.out 4
  have y5 : w11.cell? ⟨w.heap.size, 5, none⟩ = some (.int .i64 s5) := cell_of FS.out 5
  have y6 : w11.cell? ⟨w.heap.size, 6, none⟩ = some (.int .i64 s6) := cell_of FS.out 6
  have y7 : w11.cell? ⟨w.heap.size, 7, none⟩ = some (.int .i64 s7) := cell_of FS.out 7
  go_wp2_with fail
  refine (A5.out _ _ _ _ (H.out.below (HW.out.mono H.out.size))).mono ?_
  rintro e w12 ⟨rfl, hb12⟩
  have xS := (hb12.block _ (lt_of_heap FS.out)).trans FS.out
  clear FS
  have FS := Lib.hid xS
  clear xS
  have xP := (hb12.block _ (lt_of_heap FP.out)).trans FP.out
  clear FP
  have FP := Lib.hid xP
  clear xP
  have xQ := (hb12.block _ (lt_of_heap FQ.out)).trans FQ.out
  clear FQ
  have FQ := Lib.hid xQ
  clear xQ
  have xT := (hb12.block _ (lt_of_heap FT.out)).trans FT.out
  clear FT
  have FT := Lib.hid xT
  clear xT
  have xU := (hb12.block _ (lt_of_heap FU.out)).trans FU.out
  clear FU
  have FU := Lib.hid xU
  clear xU
  have xga := fun k hk => (hb12.cell (p := ⟨ga, k, none⟩) Zga.out).trans (Rga.out k hk)
  have yga := Nat.lt_of_lt_of_le Zga.out hb12.size
  clear Rga Zga
  have Rga := Lib.hid xga
  have Zga := Lib.hid yga
  clear xga yga
  have xgb := fun k hk => (hb12.cell (p := ⟨gb, k, none⟩) Zgb.out).trans (Rgb.out k hk)
  have ygb := Nat.lt_of_lt_of_le Zgb.out hb12.size
  clear Rgb Zgb
  have Rgb := Lib.hid xgb
  have Zgb := Lib.hid ygb
  clear xgb ygb
  have hw12 := HW.out.trans (hb12.mono HW.out.size)
  clear HW
  have HW := Lib.hid hw12
  clear hb12 hw12
  clear y0 y1 y2 y3 y4 y5 y6 y7
  have y0 : w12.cell? ⟨w.heap.size, 0, none⟩ = some (.int .i64 s0) := cell_of FS.out 0
  have y1 : w12.cell? ⟨w.heap.size, 1, none⟩ = some (.int .i64 s1) := cell_of FS.out 1
  have y2 : w12.cell? ⟨w.heap.size, 2, none⟩ = some (.int .i64 s2) := cell_of FS.out 2
  have y3 : w12.cell? ⟨w.heap.size, 3, none⟩ = some (.int .i64 s3) := cell_of FS.out 3
  have y4 : w12.cell? ⟨w.heap.size, 4, none⟩ = some (.int .i64 s4) := cell_of FS.out 4
  have y5 : w12.cell? ⟨w.heap.size, 5, none⟩ = some (.int .i64 s5) := cell_of FS.out 5
  have y6 : w12.cell? ⟨w.heap.size, 6, none⟩ = some (.int .i64 s6) := cell_of FS.out 6
  have y7 : w12.cell? ⟨w.heap.size, 7, none⟩ = some (.int .i64 s7) := cell_of FS.out 7
  go_wp2_with fail
  refine (A6.out _).mono ?_
  rintro e w13 ⟨rfl, hb13⟩
  have xS := (hb13.block _ (lt_of_heap FS.out)).trans FS.out
  clear FS
  have FS := Lib.hid xS
  clear xS
  have xP := (hb13.block _ (lt_of_heap FP.out)).trans FP.out
  clear FP
  have FP := Lib.hid xP
  clear xP
  have xQ := (hb13.block _ (lt_of_heap FQ.out)).trans FQ.out
  clear FQ
  have FQ := Lib.hid xQ
  clear xQ
  have xT := (hb13.block _ (lt_of_heap FT.out)).trans FT.out
  clear FT
  have FT := Lib.hid xT
  clear xT
  have xU := (hb13.block _ (lt_of_heap FU.out)).trans FU.out
  clear FU
  have FU := Lib.hid xU
  clear xU
  have xga := fun k hk => (hb13.cell (p := ⟨ga, k, none⟩) Zga.out).trans (Rga.out k hk)
  have yga := Nat.lt_of_lt_of_le Zga.out hb13.size
  clear Rga Zga
  have Rga := Lib.hid xga
  have Zga := Lib.hid yga
  clear xga yga
  have xgb := fun k hk => (hb13.cell (p := ⟨gb, k, none⟩) Zgb.out).trans (Rgb.out k hk)
  have ygb := Nat.lt_of_lt_of_le Zgb.out hb13.size
  clear Rgb Zgb
  have Rgb := Lib.hid xgb
  have Zgb := Lib.hid ygb
  clear xgb ygb
  have hw13 := HW.out.trans (hb13.mono HW.out.size)
  clear HW
  have HW := Lib.hid hw13
  clear hb13 hw13
  clear y0 y1 y2 y3 y4 y5 y6 y7
  go_wp2_with fail
  refine (first_any _).mono ?_
  rintro e w14 ⟨rfl, hb14⟩
  have xS := (hb14.block _ (lt_of_heap FS.out)).trans FS.out
  clear FS
  have FS := Lib.hid xS
  clear xS
  have xP := (hb14.block _ (lt_of_heap FP.out)).trans FP.out
  clear FP
  have FP := Lib.hid xP
  clear xP
  have xQ := (hb14.block _ (lt_of_heap FQ.out)).trans FQ.out
  clear FQ
  have FQ := Lib.hid xQ
  clear xQ
  have xT := (hb14.block _ (lt_of_heap FT.out)).trans FT.out
  clear FT
  have FT := Lib.hid xT
  clear xT
  have xU := (hb14.block _ (lt_of_heap FU.out)).trans FU.out
  clear FU
  have FU := Lib.hid xU
  clear xU
  have xga := fun k hk => (hb14.cell (p := ⟨ga, k, none⟩) Zga.out).trans (Rga.out k hk)
  have yga := Nat.lt_of_lt_of_le Zga.out hb14.size
  clear Rga Zga
  have Rga := Lib.hid xga
  have Zga := Lib.hid yga
  clear xga yga
  have xgb := fun k hk => (hb14.cell (p := ⟨gb, k, none⟩) Zgb.out).trans (Rgb.out k hk)
  have ygb := Nat.lt_of_lt_of_le Zgb.out hb14.size
  clear Rgb Zgb
  have Rgb := Lib.hid xgb
  have Zgb := Lib.hid ygb
  clear xgb ygb
  have hw14 := HW.out.trans (hb14.mono HW.out.size)
  clear HW
  have HW := Lib.hid hw14
  clear hb14 hw14
  go_wp2_with fail
  refine (ref_first _).mono ?_
  rintro e w15 ⟨rfl, hb15⟩
  have xS := (hb15.block _ (lt_of_heap FS.out)).trans FS.out
  clear FS
  have FS := Lib.hid xS
  clear xS
  have xP := (hb15.block _ (lt_of_heap FP.out)).trans FP.out
  clear FP
  have FP := Lib.hid xP
  clear xP
  have xQ := (hb15.block _ (lt_of_heap FQ.out)).trans FQ.out
  clear FQ
  have FQ := Lib.hid xQ
  clear xQ
  have xT := (hb15.block _ (lt_of_heap FT.out)).trans FT.out
  clear FT
  have FT := Lib.hid xT
  clear xT
  have xU := (hb15.block _ (lt_of_heap FU.out)).trans FU.out
  clear FU
  have FU := Lib.hid xU
  clear xU
  have xga := fun k hk => (hb15.cell (p := ⟨ga, k, none⟩) Zga.out).trans (Rga.out k hk)
  have yga := Nat.lt_of_lt_of_le Zga.out hb15.size
  clear Rga Zga
  have Rga := Lib.hid xga
  have Zga := Lib.hid yga
  clear xga yga
  have xgb := fun k hk => (hb15.cell (p := ⟨gb, k, none⟩) Zgb.out).trans (Rgb.out k hk)
  have ygb := Nat.lt_of_lt_of_le Zgb.out hb15.size
  clear Rgb Zgb
  have Rgb := Lib.hid xgb
  have Zgb := Lib.hid ygb
  clear xgb ygb
  have hw15 := HW.out.trans (hb15.mono HW.out.size)
  clear HW
  have HW := Lib.hid hw15
  clear hb15 hw15
  have he1 : eq8 [1779033703, 3144134277, 1013904242, 2773480762, 1359893119, 2600822924, 528734635, 1541459225] [1779033703, 3144134277, 1013904242, 2773480762, 1359893119, 2600822924, 528734635, 1541459225] = true := eq8_refl _
  go_wp2_with fail
  refine (ref_ints ga gb ca cb 64 (fun j => (Sha.word (byteAt bl) j : Nat)) _ Rga.out Rgb.out (by decide)).mono ?_
  rintro e w16 ⟨rfl, nq, rfl⟩
  have hwq := (drewN_below HW.out HW.out.size nq)
  have HWQ := Lib.hid hwq
  clear hwq
  have y0 : w15.cell? ⟨w4.heap.size, 0, none⟩ = some (.int .i64 r0) := cell_of FP.out 0
  have y1 : w15.cell? ⟨w4.heap.size, 1, none⟩ = some (.int .i64 r1) := cell_of FP.out 1
  have y2 : w15.cell? ⟨w4.heap.size, 2, none⟩ = some (.int .i64 r2) := cell_of FP.out 2
  have y3 : w15.cell? ⟨w4.heap.size, 3, none⟩ = some (.int .i64 r3) := cell_of FP.out 3
  have y4 : w15.cell? ⟨w4.heap.size, 4, none⟩ = some (.int .i64 r4) := cell_of FP.out 4
  have y5 : w15.cell? ⟨w4.heap.size, 5, none⟩ = some (.int .i64 r5) := cell_of FP.out 5
  have y6 : w15.cell? ⟨w4.heap.size, 6, none⟩ = some (.int .i64 r6) := cell_of FP.out 6
  have y7 : w15.cell? ⟨w4.heap.size, 7, none⟩ = some (.int .i64 r7) := cell_of FP.out 7
  have z0 : w15.cell? ⟨w6.heap.size, 0, none⟩ = some (.int .i64 r0) := cell_of FQ.out 0
  have z1 : w15.cell? ⟨w6.heap.size, 1, none⟩ = some (.int .i64 r1) := cell_of FQ.out 1
  have z2 : w15.cell? ⟨w6.heap.size, 2, none⟩ = some (.int .i64 r2) := cell_of FQ.out 2
  have z3 : w15.cell? ⟨w6.heap.size, 3, none⟩ = some (.int .i64 r3) := cell_of FQ.out 3
  have z4 : w15.cell? ⟨w6.heap.size, 4, none⟩ = some (.int .i64 r4) := cell_of FQ.out 4
  have z5 : w15.cell? ⟨w6.heap.size, 5, none⟩ = some (.int .i64 r5) := cell_of FQ.out 5
  have z6 : w15.cell? ⟨w6.heap.size, 6, none⟩ = some (.int .i64 r6) := cell_of FQ.out 6
  have z7 : w15.cell? ⟨w6.heap.size, 7, none⟩ = some (.int .i64 r7) := cell_of FQ.out 7
  have u0 : w15.cell? ⟨w8.heap.size, 0, none⟩ = some (.int .i64 q0) := cell_of FT.out 0
  have u1 : w15.cell? ⟨w8.heap.size, 1, none⟩ = some (.int .i64 q1) := cell_of FT.out 1
  have u2 : w15.cell? ⟨w8.heap.size, 2, none⟩ = some (.int .i64 q2) := cell_of FT.out 2
  have u3 : w15.cell? ⟨w8.heap.size, 3, none⟩ = some (.int .i64 q3) := cell_of FT.out 3
  have u4 : w15.cell? ⟨w8.heap.size, 4, none⟩ = some (.int .i64 q4) := cell_of FT.out 4
  have u5 : w15.cell? ⟨w8.heap.size, 5, none⟩ = some (.int .i64 q5) := cell_of FT.out 5
  have u6 : w15.cell? ⟨w8.heap.size, 6, none⟩ = some (.int .i64 q6) := cell_of FT.out 6
  have u7 : w15.cell? ⟨w8.heap.size, 7, none⟩ = some (.int .i64 q7) := cell_of FT.out 7
  have v0 : w15.cell? ⟨w10.heap.size, 0, none⟩ = some (.int .i64 q0) := cell_of FU.out 0
  have v1 : w15.cell? ⟨w10.heap.size, 1, none⟩ = some (.int .i64 q1) := cell_of FU.out 1
  have v2 : w15.cell? ⟨w10.heap.size, 2, none⟩ = some (.int .i64 q2) := cell_of FU.out 2
  have v3 : w15.cell? ⟨w10.heap.size, 3, none⟩ = some (.int .i64 q3) := cell_of FU.out 3
  have v4 : w15.cell? ⟨w10.heap.size, 4, none⟩ = some (.int .i64 q4) := cell_of FU.out 4
  have v5 : w15.cell? ⟨w10.heap.size, 5, none⟩ = some (.int .i64 q5) := cell_of FU.out 5
  have v6 : w15.cell? ⟨w10.heap.size, 6, none⟩ = some (.int .i64 q6) := cell_of FU.out 6
  have v7 : w15.cell? ⟨w10.heap.size, 7, none⟩ = some (.int .i64 q7) := cell_of FU.out 7
  have he2 : eq8 [r0, r1, r2, r3, r4, r5, r6, r7] [r0, r1, r2, r3, r4, r5, r6, r7] = true := eq8_refl _
  have he3 : eq8 [q0, q1, q2, q3, q4, q5, q6, q7] [q0, q1, q2, q3, q4, q5, q6, q7] = true := eq8_refl _
  go_wp2_with fail
  exact bodyPost_ret (v := .bool true) (by simp [results, Tryd.results3, go_sem]) rfl ⟨rfl, HWQ.out⟩
/-- EVERY STATE, TEXT, TWO NUMBERS. -/
theorem tells_law (s0 s1 s2 s3 s4 s5 s6 s7 : Int) (b : ByteArray) (hm : b.size ≤ maxLen) (i x : Int) {B : Nat} {aw ab : Addr} {w : World} (h : Glob B aw ab w) (hk : RefK w) :
    Calls Tryd.prog 3 #[.agg #[.int .i64 s0, .int .i64 s1, .int .i64 s2, .int .i64 s3, .int .i64 s4, .int .i64 s5, .int .i64 s6, .int .i64 s7], .string b, .int .i64 i, .int .i64 x] w fun e w' => e = .returned (.bool true) ∧ Below w.heap.size w w' := by
  by_cases h64 : (front b 70).size = 64
  · exact tells_ok s0 s1 s2 s3 s4 s5 s6 s7 i x b hm h64 h hk
  · exact tells_bad s0 s1 s2 s3 s4 s5 s6 s7 i x b hm h64 h hk
end Go.Proofs.YtfafidholldjlaaDoor
/- What the row of RoundsTells lays besides: the constants of the document's answer. -/
set_option linter.unusedVariables false
set_option linter.unusedSimpArgs false
namespace Go.Proofs.YtfafidholldjlaaDoor
open Go.ChangeShapes Go.WideShapes Go.ChangeAt Go.RowKit
theorem g1 : Tryd.prog.globalNamed "sigillary/sigillaryref01.k" = some 1 := by kernel_rfl
theorem g1t : (Tryd.prog.globals[1]?).map (·.type) = some 86 := by kernel_rfl
theorem cells86 : Tryd.prog.cellsOf 86 = 64 := by kernel_rfl
theorem tabk_eq : (Rows.laid_sigillary_sigillaryref01_k : DataW Unit) = Lib.tabData .i64 (Sha.K.map Int.ofNat) := by kernel_rfl
theorem refk_of {W : World} {r : List (String × DataW Unit)} (h : laidMet Tryd.prog (("sigillary/sigillaryref01.k", Rows.laid_sigillary_sigillaryref01_k) :: r) W) : RefK W := by
  rw [tabk_eq] at h
  have hT := Lib.tabIs_of_head g1 g1t Tryd.underlying86 Tryd.underlying3 cells3 cells86 h
  intro i hi
  have hk : i < Sha.K.length := hi
  have hc := hT.cell g1 i (by rw [List.length_map]; exact hk)
  rw [hc, List.getD_eq_getElem?_getD, List.getElem?_map, List.getElem?_eq_getElem hk, List.getD_eq_getElem?_getD, List.getElem?_eq_getElem hk]
  rfl
end Go.Proofs.YtfafidholldjlaaDoor
