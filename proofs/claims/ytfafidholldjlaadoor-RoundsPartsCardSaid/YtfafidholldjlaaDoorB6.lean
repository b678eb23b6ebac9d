/- The law RoundsParts, where the call of Compress refuses. -/
import Derived.Test.YtfafidholldjlaaDoorB4
set_option linter.unusedVariables false
set_option linter.unusedSimpArgs false
namespace Go.Proofs.YtfafidholldjlaaDoor
open Go.RowKit
set_option maxRecDepth 100000 in
theorem parts_word_bad (s0 s1 s2 s3 s4 s5 s6 s7 : Int) (hbad : ¬ Words8 s0 s1 s2 s3 s4 s5 s6 s7) (b : ByteArray) (hs64 : (front b 70).size ≠ 64) (hm : b.size ≤ maxLen) {B : Nat} {aw ab : Addr} {w : World} (h : Glob B aw ab w) :
    Calls Tryd.prog 4 #[.agg #[.int .i64 s0, .int .i64 s1, .int .i64 s2, .int .i64 s3, .int .i64 s4, .int .i64 s5, .int .i64 s6, .int .i64 s7], .string b] w fun e w' => e = .returned (.bool true) ∧ Below w.heap.size w w' := by
  have H := Lib.hid h
  have HM := Lib.hid hm
  have Hs64 := Lib.hid hs64
  have Hb := Lib.hid hbad
  clear h hm hs64 hbad
  go_enter Tryd.func4, Tryd.ntmps4
  go_wp2_with fail
  refine (shown_any (H.out.below ((Below.refl B w).alloc H.out.size _))).mono ?_
  rintro e w1 ⟨rfl, hb1⟩
  have hc1 := (hb1.block w.heap.size (by simp)).trans (alloc_heap_at w (.cells #[.int .i64 s0, .int .i64 s1, .int .i64 s2, .int .i64 s3, .int .i64 s4, .int .i64 s5, .int .i64 s6, .int .i64 s7] 23) _ rfl)
  have hw1 : Below w.heap.size w w1 := ((Below.refl _ w).alloc (Nat.le_refl _) _).trans (hb1.mono (by simp))
  have HC1 := Lib.hid hc1
  have HW1 := Lib.hid hw1
  clear hb1 hc1 hw1
  go_wp2_with fail
  refine (cut_any b HM.out _).mono ?_
  rintro e w2 ⟨rfl, rfl⟩
  obtain ⟨bl, hbl⟩ : ∃ x, front b 70 = x := ⟨_, rfl⟩
  rw [hbl] at Hs64 ⊢
  clear hbl
  have y0 : w1.cell? ⟨w.heap.size, 0, none⟩ = some (.int .i64 s0) := cell_of HC1.out 0
  have y1 : w1.cell? ⟨w.heap.size, 1, none⟩ = some (.int .i64 s1) := cell_of HC1.out 1
  have y2 : w1.cell? ⟨w.heap.size, 2, none⟩ = some (.int .i64 s2) := cell_of HC1.out 2
  have y3 : w1.cell? ⟨w.heap.size, 3, none⟩ = some (.int .i64 s3) := cell_of HC1.out 3
  have y4 : w1.cell? ⟨w.heap.size, 4, none⟩ = some (.int .i64 s4) := cell_of HC1.out 4
  have y5 : w1.cell? ⟨w.heap.size, 5, none⟩ = some (.int .i64 s5) := cell_of HC1.out 5
  have y6 : w1.cell? ⟨w.heap.size, 6, none⟩ = some (.int .i64 s6) := cell_of HC1.out 6
  have y7 : w1.cell? ⟨w.heap.size, 7, none⟩ = some (.int .i64 s7) := cell_of HC1.out 7
  go_wp2_with fail
  refine (compress_word s0 s1 s2 s3 s4 s5 s6 s7 Hb.out (H.out.below (HW1.out.mono H.out.size)) bl).mono ?_
  rintro e w2 ⟨rfl, hb2⟩
  have hw2 : Below w.heap.size w w2 := HW1.out.trans (hb2.mono HW1.out.size)
  have hc2 := (hb2.block _ (lt_of_heap HC1.out)).trans HC1.out
  have hd2 := alloc_heap_old (.cells #[.int .i64 0, .int .i64 0, .int .i64 0, .int .i64 0, .int .i64 0, .int .i64 0, .int .i64 0, .int .i64 0] 23) hc2
  have he2 := alloc_heap_at w2 (.cells #[.int .i64 0, .int .i64 0, .int .i64 0, .int .i64 0, .int .i64 0, .int .i64 0, .int .i64 0, .int .i64 0] 23) _ rfl
  have hx2 : Below w.heap.size w (w2.alloc (.cells #[.int .i64 0, .int .i64 0, .int .i64 0, .int .i64 0, .int .i64 0, .int .i64 0, .int .i64 0, .int .i64 0] 23)) := hw2.alloc hw2.size _
  clear y0 y1 y2 y3 y4 y5 y6 y7
  go_upto_region 4 with (fail)
  generalize w2.alloc (.cells #[.int .i64 0, .int .i64 0, .int .i64 0, .int .i64 0, .int .i64 0, .int .i64 0, .int .i64 0, .int .i64 0] 23) = w3 at hd2 he2 hx2 ⊢
  have HD3 := Lib.hid hd2
  have HE3 := Lib.hid he2
  have HW3 := Lib.hid hx2
  clear hd2 he2 hx2 hc2 hw2 hb2
  go_wp2_with fail
  refine (schedule_bad (H.out.below (HW3.out.mono H.out.size)) bl Hs64.out).mono ?_
  rintro e w4 ⟨rfl, rfl⟩
  have y0 : w3.cell? ⟨w.heap.size, 0, none⟩ = some (.int .i64 s0) := cell_of HD3.out 0
  have y1 : w3.cell? ⟨w.heap.size, 1, none⟩ = some (.int .i64 s1) := cell_of HD3.out 1
  have y2 : w3.cell? ⟨w.heap.size, 2, none⟩ = some (.int .i64 s2) := cell_of HD3.out 2
  have y3 : w3.cell? ⟨w.heap.size, 3, none⟩ = some (.int .i64 s3) := cell_of HD3.out 3
  have y4 : w3.cell? ⟨w.heap.size, 4, none⟩ = some (.int .i64 s4) := cell_of HD3.out 4
  have y5 : w3.cell? ⟨w.heap.size, 5, none⟩ = some (.int .i64 s5) := cell_of HD3.out 5
  have y6 : w3.cell? ⟨w.heap.size, 6, none⟩ = some (.int .i64 s6) := cell_of HD3.out 6
  have y7 : w3.cell? ⟨w.heap.size, 7, none⟩ = some (.int .i64 s7) := cell_of HD3.out 7
  go_wp2_with fail
  refine (bytes_bad s0 s1 s2 s3 s4 s5 s6 s7 Hb.out (H.out.below (HW3.out.mono H.out.size))).mono ?_
  rintro e w5 ⟨rfl, hb5⟩
  have hw5 : Below w.heap.size w w5 := HW3.out.trans (hb5.mono HW3.out.size)
  have hd5 := (hb5.block _ (lt_of_heap HD3.out)).trans HD3.out
  have he5 := (hb5.block _ (lt_of_heap HE3.out)).trans HE3.out
  have HD5 := Lib.hid hd5
  have HE5 := Lib.hid he5
  have HW5 := Lib.hid hw5
  clear y0 y1 y2 y3 y4 y5 y6 y7 hd5 he5 hw5 hb5
  have hez : eq8 [0, 0, 0, 0, 0, 0, 0, 0] [0, 0, 0, 0, 0, 0, 0, 0] = true := eq8_refl _
  have x0 : w5.cell? ⟨w2.heap.size, 0, none⟩ = some (.int .i64 0) := cell_of HE5.out 0
  have x1 : w5.cell? ⟨w2.heap.size, 1, none⟩ = some (.int .i64 0) := cell_of HE5.out 1
  have x2 : w5.cell? ⟨w2.heap.size, 2, none⟩ = some (.int .i64 0) := cell_of HE5.out 2
  have x3 : w5.cell? ⟨w2.heap.size, 3, none⟩ = some (.int .i64 0) := cell_of HE5.out 3
  have x4 : w5.cell? ⟨w2.heap.size, 4, none⟩ = some (.int .i64 0) := cell_of HE5.out 4
  have x5 : w5.cell? ⟨w2.heap.size, 5, none⟩ = some (.int .i64 0) := cell_of HE5.out 5
  have x6 : w5.cell? ⟨w2.heap.size, 6, none⟩ = some (.int .i64 0) := cell_of HE5.out 6
  have x7 : w5.cell? ⟨w2.heap.size, 7, none⟩ = some (.int .i64 0) := cell_of HE5.out 7
  go_wp2_with fail
  exact bodyPost_ret (v := .bool true) (by simp [results, Tryd.results4, go_sem]) rfl ⟨rfl, HW5.out⟩
set_option maxRecDepth 100000 in
theorem parts_word_ok (s0 s1 s2 s3 s4 s5 s6 s7 : Int) (hbad : ¬ Words8 s0 s1 s2 s3 s4 s5 s6 s7) (b : ByteArray) (hs64 : (front b 70).size = 64) (hm : b.size ≤ maxLen) {B : Nat} {aw ab : Addr} {w : World} (h : Glob B aw ab w) :
    Calls Tryd.prog 4 #[.agg #[.int .i64 s0, .int .i64 s1, .int .i64 s2, .int .i64 s3, .int .i64 s4, .int .i64 s5, .int .i64 s6, .int .i64 s7], .string b] w fun e w' => e = .returned (.bool true) ∧ Below w.heap.size w w' := by
  have H := Lib.hid h
  have HM := Lib.hid hm
  have Hs64 := Lib.hid hs64
  have Hb := Lib.hid hbad
  clear h hm hs64 hbad
  go_enter Tryd.func4, Tryd.ntmps4
  go_wp2_with fail
  refine (shown_any (H.out.below ((Below.refl B w).alloc H.out.size _))).mono ?_
  rintro e w1 ⟨rfl, hb1⟩
  have hc1 := (hb1.block w.heap.size (by simp)).trans (alloc_heap_at w (.cells #[.int .i64 s0, .int .i64 s1, .int .i64 s2, .int .i64 s3, .int .i64 s4, .int .i64 s5, .int .i64 s6, .int .i64 s7] 23) _ rfl)
  have hw1 : Below w.heap.size w w1 := ((Below.refl _ w).alloc (Nat.le_refl _) _).trans (hb1.mono (by simp))
  have HC1 := Lib.hid hc1
  have HW1 := Lib.hid hw1
  clear hb1 hc1 hw1
  go_wp2_with fail
  refine (cut_any b HM.out _).mono ?_
  rintro e w2 ⟨rfl, rfl⟩
  obtain ⟨bl, hbl⟩ : ∃ x, front b 70 = x := ⟨_, rfl⟩
  rw [hbl] at Hs64 ⊢
  clear hbl
  have y0 : w1.cell? ⟨w.heap.size, 0, none⟩ = some (.int .i64 s0) := cell_of HC1.out 0
  have y1 : w1.cell? ⟨w.heap.size, 1, none⟩ = some (.int .i64 s1) := cell_of HC1.out 1
  have y2 : w1.cell? ⟨w.heap.size, 2, none⟩ = some (.int .i64 s2) := cell_of HC1.out 2
  have y3 : w1.cell? ⟨w.heap.size, 3, none⟩ = some (.int .i64 s3) := cell_of HC1.out 3
  have y4 : w1.cell? ⟨w.heap.size, 4, none⟩ = some (.int .i64 s4) := cell_of HC1.out 4
  have y5 : w1.cell? ⟨w.heap.size, 5, none⟩ = some (.int .i64 s5) := cell_of HC1.out 5
  have y6 : w1.cell? ⟨w.heap.size, 6, none⟩ = some (.int .i64 s6) := cell_of HC1.out 6
  have y7 : w1.cell? ⟨w.heap.size, 7, none⟩ = some (.int .i64 s7) := cell_of HC1.out 7
  go_wp2_with fail
  refine (compress_word s0 s1 s2 s3 s4 s5 s6 s7 Hb.out (H.out.below (HW1.out.mono H.out.size)) bl).mono ?_
  rintro e w2 ⟨rfl, hb2⟩
  have hw2 : Below w.heap.size w w2 := HW1.out.trans (hb2.mono HW1.out.size)
  have hc2 := (hb2.block _ (lt_of_heap HC1.out)).trans HC1.out
  have hd2 := alloc_heap_old (.cells #[.int .i64 0, .int .i64 0, .int .i64 0, .int .i64 0, .int .i64 0, .int .i64 0, .int .i64 0, .int .i64 0] 23) hc2
  have he2 := alloc_heap_at w2 (.cells #[.int .i64 0, .int .i64 0, .int .i64 0, .int .i64 0, .int .i64 0, .int .i64 0, .int .i64 0, .int .i64 0] 23) _ rfl
  have hx2 : Below w.heap.size w (w2.alloc (.cells #[.int .i64 0, .int .i64 0, .int .i64 0, .int .i64 0, .int .i64 0, .int .i64 0, .int .i64 0, .int .i64 0] 23)) := hw2.alloc hw2.size _
  clear y0 y1 y2 y3 y4 y5 y6 y7
  go_upto_region 4 with (fail)
  generalize w2.alloc (.cells #[.int .i64 0, .int .i64 0, .int .i64 0, .int .i64 0, .int .i64 0, .int .i64 0, .int .i64 0, .int .i64 0] 23) = w3 at hd2 he2 hx2 ⊢
  have HD3 := Lib.hid hd2
  have HE3 := Lib.hid he2
  have HW3 := Lib.hid hx2
  clear hd2 he2 hx2 hc2 hw2 hb2
  go_wp2_with fail
  refine (schedule_ok (H.out.below (HW3.out.mono H.out.size)) bl Hs64.out).mono ?_
  rintro e w4 ⟨g, cap, rfl, hg1, hg2, hcg, hb4⟩
  have HCG := Lib.hid hcg
  have hw4 : Below w.heap.size w w4 := HW3.out.trans (hb4.mono HW3.out.size)
  have hd4 := (hb4.block _ (lt_of_heap HD3.out)).trans HD3.out
  have he4 := (hb4.block _ (lt_of_heap HE3.out)).trans HE3.out
  clear HD3 HE3 HW3 hcg hb4
  have HD3 := Lib.hid hd4
  have HE3 := Lib.hid he4
  have HW3 := Lib.hid hw4
  clear hd4 he4 hw4
  have y0 : w4.cell? ⟨w.heap.size, 0, none⟩ = some (.int .i64 s0) := cell_of HD3.out 0
  have y1 : w4.cell? ⟨w.heap.size, 1, none⟩ = some (.int .i64 s1) := cell_of HD3.out 1
  have y2 : w4.cell? ⟨w.heap.size, 2, none⟩ = some (.int .i64 s2) := cell_of HD3.out 2
  have y3 : w4.cell? ⟨w.heap.size, 3, none⟩ = some (.int .i64 s3) := cell_of HD3.out 3
  have y4 : w4.cell? ⟨w.heap.size, 4, none⟩ = some (.int .i64 s4) := cell_of HD3.out 4
  have y5 : w4.cell? ⟨w.heap.size, 5, none⟩ = some (.int .i64 s5) := cell_of HD3.out 5
  have y6 : w4.cell? ⟨w.heap.size, 6, none⟩ = some (.int .i64 s6) := cell_of HD3.out 6
  have y7 : w4.cell? ⟨w.heap.size, 7, none⟩ = some (.int .i64 s7) := cell_of HD3.out 7
  go_wp2_with fail
  refine (bytes_bad s0 s1 s2 s3 s4 s5 s6 s7 Hb.out (H.out.below (HW3.out.mono H.out.size))).mono ?_
  rintro e w5 ⟨rfl, hb5⟩
  have hw5 : Below w.heap.size w w5 := HW3.out.trans (hb5.mono HW3.out.size)
  have hd5 := (hb5.block _ (lt_of_heap HD3.out)).trans HD3.out
  have he5 := (hb5.block _ (lt_of_heap HE3.out)).trans HE3.out
  have HD5 := Lib.hid hd5
  have HE5 := Lib.hid he5
  have HW5 := Lib.hid hw5
  clear y0 y1 y2 y3 y4 y5 y6 y7 hd5 he5 hw5 hb5
  have hez : eq8 [0, 0, 0, 0, 0, 0, 0, 0] [0, 0, 0, 0, 0, 0, 0, 0] = true := eq8_refl _
  have x0 : w5.cell? ⟨w2.heap.size, 0, none⟩ = some (.int .i64 0) := cell_of HE5.out 0
  have x1 : w5.cell? ⟨w2.heap.size, 1, none⟩ = some (.int .i64 0) := cell_of HE5.out 1
  have x2 : w5.cell? ⟨w2.heap.size, 2, none⟩ = some (.int .i64 0) := cell_of HE5.out 2
  have x3 : w5.cell? ⟨w2.heap.size, 3, none⟩ = some (.int .i64 0) := cell_of HE5.out 3
  have x4 : w5.cell? ⟨w2.heap.size, 4, none⟩ = some (.int .i64 0) := cell_of HE5.out 4
  have x5 : w5.cell? ⟨w2.heap.size, 5, none⟩ = some (.int .i64 0) := cell_of HE5.out 5
  have x6 : w5.cell? ⟨w2.heap.size, 6, none⟩ = some (.int .i64 0) := cell_of HE5.out 6
  have x7 : w5.cell? ⟨w2.heap.size, 7, none⟩ = some (.int .i64 0) := cell_of HE5.out 7
  go_wp2_with fail
  exact bodyPost_ret (v := .bool true) (by simp [results, Tryd.results4, go_sem]) rfl ⟨rfl, HW5.out⟩
set_option maxRecDepth 100000 in
theorem parts_block (s : Sha.St) (hs : s.ok) (b : ByteArray) (hs64 : (front b 70).size ≠ 64) (hm : b.size ≤ maxLen) {B : Nat} {aw ab : Addr} {w : World} (h : Glob B aw ab w) :
    Calls Tryd.prog 4 #[.agg #[.int .i64 s.a, .int .i64 s.b, .int .i64 s.c, .int .i64 s.d, .int .i64 s.e, .int .i64 s.f, .int .i64 s.g, .int .i64 s.h], .string b] w fun e w' => e = .returned (.bool true) ∧ Below w.heap.size w w' := by
  have H := Lib.hid h
  have HM := Lib.hid hm
  have Hs64 := Lib.hid hs64
  have Hs := Lib.hid hs
  clear h hm hs64 hs
  go_enter Tryd.func4, Tryd.ntmps4
  go_wp2_with fail
  refine (shown_any (H.out.below ((Below.refl B w).alloc H.out.size _))).mono ?_
  rintro e w1 ⟨rfl, hb1⟩
  have hc1 := (hb1.block w.heap.size (by simp)).trans (alloc_heap_at w (.cells #[.int .i64 s.a, .int .i64 s.b, .int .i64 s.c, .int .i64 s.d, .int .i64 s.e, .int .i64 s.f, .int .i64 s.g, .int .i64 s.h] 23) _ rfl)
  have hw1 : Below w.heap.size w w1 := ((Below.refl _ w).alloc (Nat.le_refl _) _).trans (hb1.mono (by simp))
  have HC1 := Lib.hid hc1
  have HW1 := Lib.hid hw1
  clear hb1 hc1 hw1
  go_wp2_with fail
  refine (cut_any b HM.out _).mono ?_
  rintro e w2 ⟨rfl, rfl⟩
  obtain ⟨bl, hbl⟩ : ∃ x, front b 70 = x := ⟨_, rfl⟩
  rw [hbl] at Hs64 ⊢
  clear hbl
  have y0 : w1.cell? ⟨w.heap.size, 0, none⟩ = some (.int .i64 s.a) := cell_of HC1.out 0
  have y1 : w1.cell? ⟨w.heap.size, 1, none⟩ = some (.int .i64 s.b) := cell_of HC1.out 1
  have y2 : w1.cell? ⟨w.heap.size, 2, none⟩ = some (.int .i64 s.c) := cell_of HC1.out 2
  have y3 : w1.cell? ⟨w.heap.size, 3, none⟩ = some (.int .i64 s.d) := cell_of HC1.out 3
  have y4 : w1.cell? ⟨w.heap.size, 4, none⟩ = some (.int .i64 s.e) := cell_of HC1.out 4
  have y5 : w1.cell? ⟨w.heap.size, 5, none⟩ = some (.int .i64 s.f) := cell_of HC1.out 5
  have y6 : w1.cell? ⟨w.heap.size, 6, none⟩ = some (.int .i64 s.g) := cell_of HC1.out 6
  have y7 : w1.cell? ⟨w.heap.size, 7, none⟩ = some (.int .i64 s.h) := cell_of HC1.out 7
  go_wp2_with fail
  refine (compress_block s Hs.out (H.out.below (HW1.out.mono H.out.size)) bl Hs64.out).mono ?_
  rintro e w2 ⟨rfl, hb2⟩
  have hw2 : Below w.heap.size w w2 := HW1.out.trans (hb2.mono HW1.out.size)
  have hc2 := (hb2.block _ (lt_of_heap HC1.out)).trans HC1.out
  have hd2 := alloc_heap_old (.cells #[.int .i64 0, .int .i64 0, .int .i64 0, .int .i64 0, .int .i64 0, .int .i64 0, .int .i64 0, .int .i64 0] 23) hc2
  have he2 := alloc_heap_at w2 (.cells #[.int .i64 0, .int .i64 0, .int .i64 0, .int .i64 0, .int .i64 0, .int .i64 0, .int .i64 0, .int .i64 0] 23) _ rfl
  have hx2 : Below w.heap.size w (w2.alloc (.cells #[.int .i64 0, .int .i64 0, .int .i64 0, .int .i64 0, .int .i64 0, .int .i64 0, .int .i64 0, .int .i64 0] 23)) := hw2.alloc hw2.size _
  clear y0 y1 y2 y3 y4 y5 y6 y7
  go_upto_region 4 with (fail)
  generalize w2.alloc (.cells #[.int .i64 0, .int .i64 0, .int .i64 0, .int .i64 0, .int .i64 0, .int .i64 0, .int .i64 0, .int .i64 0] 23) = w3 at hd2 he2 hx2 ⊢
  have HD3 := Lib.hid hd2
  have HE3 := Lib.hid he2
  have HW3 := Lib.hid hx2
  clear hd2 he2 hx2 hc2 hw2 hb2
  go_wp2_with fail
  refine (schedule_bad (H.out.below (HW3.out.mono H.out.size)) bl Hs64.out).mono ?_
  rintro e w4 ⟨rfl, rfl⟩
  have y0 : w3.cell? ⟨w.heap.size, 0, none⟩ = some (.int .i64 s.a) := cell_of HD3.out 0
  have y1 : w3.cell? ⟨w.heap.size, 1, none⟩ = some (.int .i64 s.b) := cell_of HD3.out 1
  have y2 : w3.cell? ⟨w.heap.size, 2, none⟩ = some (.int .i64 s.c) := cell_of HD3.out 2
  have y3 : w3.cell? ⟨w.heap.size, 3, none⟩ = some (.int .i64 s.d) := cell_of HD3.out 3
  have y4 : w3.cell? ⟨w.heap.size, 4, none⟩ = some (.int .i64 s.e) := cell_of HD3.out 4
  have y5 : w3.cell? ⟨w.heap.size, 5, none⟩ = some (.int .i64 s.f) := cell_of HD3.out 5
  have y6 : w3.cell? ⟨w.heap.size, 6, none⟩ = some (.int .i64 s.g) := cell_of HD3.out 6
  have y7 : w3.cell? ⟨w.heap.size, 7, none⟩ = some (.int .i64 s.h) := cell_of HD3.out 7
  go_wp2_with fail
  refine (bytes_ok s Hs.out (H.out.below (HW3.out.mono H.out.size))).mono ?_
  rintro e w5 ⟨rfl, hb5⟩
  have hw5 : Below w.heap.size w w5 := HW3.out.trans (hb5.mono HW3.out.size)
  have hd5 := (hb5.block _ (lt_of_heap HD3.out)).trans HD3.out
  have he5 := (hb5.block _ (lt_of_heap HE3.out)).trans HE3.out
  have HD5 := Lib.hid hd5
  have HE5 := Lib.hid he5
  have HW5 := Lib.hid hw5
  clear y0 y1 y2 y3 y4 y5 y6 y7 hd5 he5 hw5 hb5
  have hez : eq8 [0, 0, 0, 0, 0, 0, 0, 0] [0, 0, 0, 0, 0, 0, 0, 0] = true := eq8_refl _
  generalize (⟨(stBytes s).toArray⟩ : ByteArray) = bs
  have x0 : w5.cell? ⟨w2.heap.size, 0, none⟩ = some (.int .i64 0) := cell_of HE5.out 0
  have x1 : w5.cell? ⟨w2.heap.size, 1, none⟩ = some (.int .i64 0) := cell_of HE5.out 1
  have x2 : w5.cell? ⟨w2.heap.size, 2, none⟩ = some (.int .i64 0) := cell_of HE5.out 2
  have x3 : w5.cell? ⟨w2.heap.size, 3, none⟩ = some (.int .i64 0) := cell_of HE5.out 3
  have x4 : w5.cell? ⟨w2.heap.size, 4, none⟩ = some (.int .i64 0) := cell_of HE5.out 4
  have x5 : w5.cell? ⟨w2.heap.size, 5, none⟩ = some (.int .i64 0) := cell_of HE5.out 5
  have x6 : w5.cell? ⟨w2.heap.size, 6, none⟩ = some (.int .i64 0) := cell_of HE5.out 6
  have x7 : w5.cell? ⟨w2.heap.size, 7, none⟩ = some (.int .i64 0) := cell_of HE5.out 7
  go_wp2_with fail
  exact bodyPost_ret (v := .bool true) (by simp [results, Tryd.results4, go_sem]) rfl ⟨rfl, HW5.out⟩
end Go.Proofs.YtfafidholldjlaaDoor
