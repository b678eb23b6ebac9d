/- The law of words. -/
import Derived.Test.YtfafidholldjlaaDoorB1
import Derived.Test.YtfafidholldjlaaDoorC1
set_option linter.unusedVariables false
set_option linter.unusedSimpArgs false
namespace Go.Proofs.YtfafidholldjlaaDoor
open Go.RowKit
set_option maxRecDepth 100000 in
theorem words_ok (s : Sha.St) (hs : s.ok) (i x : Nat) (hi : i < 64) (hx : x < 4294967296) {B : Nat} {aw ab : Addr} {w : World} (h : Glob B aw ab w) :
    Calls Tryd.prog 5 #[.agg #[.int .i64 s.a, .int .i64 s.b, .int .i64 s.c, .int .i64 s.d, .int .i64 s.e, .int .i64 s.f, .int .i64 s.g, .int .i64 s.h], .int .i64 (i : Int), .int .i64 (x : Int)] w fun e w' => e = .returned (.bool true) ∧ Below w.heap.size w w' := by
  have H := Lib.hid h
  clear h
  have Hs := Lib.hid hs
  have Hi := Lib.hid hi
  have Hx := Lib.hid hx
  clear hi hx
  obtain ⟨T, hT⟩ : ∃ T, s.round (Sha.K.getD i 0) x = T := ⟨_, rfl⟩
  have HT := Lib.hid hT
  have tok : T.ok := hT ▸ Sha.St.round_ok hs _ _
  have TOK := Lib.hid tok
  clear tok
  clear hT hs
  go_enter Tryd.func5, Tryd.ntmps5
  go_wp2_with fail
  refine (shown_any (H.out.below ((Below.refl B w).alloc H.out.size _))).mono ?_
  rintro e w1 ⟨rfl, hb1⟩
  have z1 : w.heap.size < w1.heap.size := by have := hb1.size; simp at this; omega
  have hc1 := (hb1.block w.heap.size (by simp)).trans (alloc_heap_at w (.cells #[.int .i64 s.a, .int .i64 s.b, .int .i64 s.c, .int .i64 s.d, .int .i64 s.e, .int .i64 s.f, .int .i64 s.g, .int .i64 s.h] 23) _ rfl)
  have hw1 : Below w.heap.size w w1 := ((Below.refl _ w).alloc (Nat.le_refl _) _).trans (hb1.mono (by simp))
  have y0 : w1.cell? ⟨w.heap.size, 0, none⟩ = some (.int .i64 s.a) := cell_of hc1 0
  have y1 : w1.cell? ⟨w.heap.size, 1, none⟩ = some (.int .i64 s.b) := cell_of hc1 1
  have y2 : w1.cell? ⟨w.heap.size, 2, none⟩ = some (.int .i64 s.c) := cell_of hc1 2
  have y3 : w1.cell? ⟨w.heap.size, 3, none⟩ = some (.int .i64 s.d) := cell_of hc1 3
  have y4 : w1.cell? ⟨w.heap.size, 4, none⟩ = some (.int .i64 s.e) := cell_of hc1 4
  have y5 : w1.cell? ⟨w.heap.size, 5, none⟩ = some (.int .i64 s.f) := cell_of hc1 5
  have y6 : w1.cell? ⟨w.heap.size, 6, none⟩ = some (.int .i64 s.g) := cell_of hc1 6
  have y7 : w1.cell? ⟨w.heap.size, 7, none⟩ = some (.int .i64 s.h) := cell_of hc1 7
  have HC1 := Lib.hid hc1
  have HW1 := Lib.hid hw1
  clear hb1 hc1 hw1
  go_wp2_with fail
  refine (round_ok s Hs.out i x Hi.out Hx.out (H.out.below (HW1.out.mono H.out.size))).mono ?_
  rw [HT.out]
  unfold row64
  rintro e w2 ⟨rfl, hb2⟩
  have z2 : w.heap.size < w2.heap.size := Nat.lt_of_lt_of_le z1 hb2.size
  have hw2 : Below w.heap.size w w2 := HW1.out.trans (hb2.mono HW1.out.size)
  have hc2 := (hb2.block _ z1).trans HC1.out
  have hd2 := alloc_heap_old (.cells #[.int .i64 T.a, .int .i64 T.b, .int .i64 T.c, .int .i64 T.d, .int .i64 T.e, .int .i64 T.f, .int .i64 T.g, .int .i64 T.h] 23) hc2
  have he2 := alloc_heap_at w2 (.cells #[.int .i64 T.a, .int .i64 T.b, .int .i64 T.c, .int .i64 T.d, .int .i64 T.e, .int .i64 T.f, .int .i64 T.g, .int .i64 T.h] 23) _ rfl
  have hx2 : Below w.heap.size w (w2.alloc (.cells #[.int .i64 T.a, .int .i64 T.b, .int .i64 T.c, .int .i64 T.d, .int .i64 T.e, .int .i64 T.f, .int .i64 T.g, .int .i64 T.h] 23)) := hw2.alloc (by omega) _
  clear y0 y1 y2 y3 y4 y5 y6 y7
  go_upto_region 3 with (fail)
  generalize w2.alloc (.cells #[.int .i64 T.a, .int .i64 T.b, .int .i64 T.c, .int .i64 T.d, .int .i64 T.e, .int .i64 T.f, .int .i64 T.g, .int .i64 T.h] 23) = w3 at hd2 he2 hx2 ⊢
  have z3 : w2.heap.size < w3.heap.size := lt_of_heap he2
  have y0 : w3.cell? ⟨w.heap.size, 0, none⟩ = some (.int .i64 s.a) := cell_of hd2 0
  have y1 : w3.cell? ⟨w.heap.size, 1, none⟩ = some (.int .i64 s.b) := cell_of hd2 1
  have y2 : w3.cell? ⟨w.heap.size, 2, none⟩ = some (.int .i64 s.c) := cell_of hd2 2
  have y3 : w3.cell? ⟨w.heap.size, 3, none⟩ = some (.int .i64 s.d) := cell_of hd2 3
  have y4 : w3.cell? ⟨w.heap.size, 4, none⟩ = some (.int .i64 s.e) := cell_of hd2 4
  have y5 : w3.cell? ⟨w.heap.size, 5, none⟩ = some (.int .i64 s.f) := cell_of hd2 5
  have y6 : w3.cell? ⟨w.heap.size, 6, none⟩ = some (.int .i64 s.g) := cell_of hd2 6
  have y7 : w3.cell? ⟨w.heap.size, 7, none⟩ = some (.int .i64 s.h) := cell_of hd2 7
  have HD3 := Lib.hid hd2
  have HE3 := Lib.hid he2
  have HW3 := Lib.hid hx2
  clear hd2 he2 hx2 hc2 hw2 hb2
  go_wp2_with fail
  refine (bytes_ok s Hs.out (H.out.below (HW3.out.mono H.out.size))).mono ?_
  rintro e w4 ⟨rfl, hb4⟩
  have hc4 := (hb4.block _ (lt_of_heap HD3.out)).trans HD3.out
  have hd4 := (hb4.block _ (lt_of_heap HE3.out)).trans HE3.out
  have hw4 : Below w.heap.size w w4 := HW3.out.trans (hb4.mono HW3.out.size)
  have HC4 := Lib.hid hc4
  have HD4 := Lib.hid hd4
  have HW4 := Lib.hid hw4
  clear y0 y1 y2 y3 y4 y5 y6 y7
  have y0 : w4.cell? ⟨w2.heap.size, 0, none⟩ = some (.int .i64 T.a) := cell_of hd4 0
  have y1 : w4.cell? ⟨w2.heap.size, 1, none⟩ = some (.int .i64 T.b) := cell_of hd4 1
  have y2 : w4.cell? ⟨w2.heap.size, 2, none⟩ = some (.int .i64 T.c) := cell_of hd4 2
  have y3 : w4.cell? ⟨w2.heap.size, 3, none⟩ = some (.int .i64 T.d) := cell_of hd4 3
  have y4 : w4.cell? ⟨w2.heap.size, 4, none⟩ = some (.int .i64 T.e) := cell_of hd4 4
  have y5 : w4.cell? ⟨w2.heap.size, 5, none⟩ = some (.int .i64 T.f) := cell_of hd4 5
  have y6 : w4.cell? ⟨w2.heap.size, 6, none⟩ = some (.int .i64 T.g) := cell_of hd4 6
  have y7 : w4.cell? ⟨w2.heap.size, 7, none⟩ = some (.int .i64 T.h) := cell_of hd4 7
  clear hc4 hd4 hw4 hb4
  go_wp2_with fail
  refine (bytes_ok T TOK.out (H.out.below (HW4.out.mono H.out.size))).mono ?_
  rintro e w5 ⟨rfl, hb5⟩
  have hc5 := (hb5.block _ (lt_of_heap HC4.out)).trans HC4.out
  have hd5 := (hb5.block _ (lt_of_heap HD4.out)).trans HD4.out
  have hw5 : Below w.heap.size w w5 := HW4.out.trans (hb5.mono HW4.out.size)
  have HW5 := Lib.hid hw5
  clear y0 y1 y2 y3 y4 y5 y6 y7
  have y0 : w5.cell? ⟨w.heap.size, 0, none⟩ = some (.int .i64 s.a) := cell_of hc5 0
  have y1 : w5.cell? ⟨w.heap.size, 1, none⟩ = some (.int .i64 s.b) := cell_of hc5 1
  have y2 : w5.cell? ⟨w.heap.size, 2, none⟩ = some (.int .i64 s.c) := cell_of hc5 2
  have y3 : w5.cell? ⟨w.heap.size, 3, none⟩ = some (.int .i64 s.d) := cell_of hc5 3
  have y4 : w5.cell? ⟨w.heap.size, 4, none⟩ = some (.int .i64 s.e) := cell_of hc5 4
  have y5 : w5.cell? ⟨w.heap.size, 5, none⟩ = some (.int .i64 s.f) := cell_of hc5 5
  have y6 : w5.cell? ⟨w.heap.size, 6, none⟩ = some (.int .i64 s.g) := cell_of hc5 6
  have y7 : w5.cell? ⟨w.heap.size, 7, none⟩ = some (.int .i64 s.h) := cell_of hc5 7
  have x0 : w5.cell? ⟨w2.heap.size, 0, none⟩ = some (.int .i64 T.a) := cell_of hd5 0
  have x1 : w5.cell? ⟨w2.heap.size, 1, none⟩ = some (.int .i64 T.b) := cell_of hd5 1
  have x2 : w5.cell? ⟨w2.heap.size, 2, none⟩ = some (.int .i64 T.c) := cell_of hd5 2
  have x3 : w5.cell? ⟨w2.heap.size, 3, none⟩ = some (.int .i64 T.d) := cell_of hd5 3
  have x4 : w5.cell? ⟨w2.heap.size, 4, none⟩ = some (.int .i64 T.e) := cell_of hd5 4
  have x5 : w5.cell? ⟨w2.heap.size, 5, none⟩ = some (.int .i64 T.f) := cell_of hd5 5
  have x6 : w5.cell? ⟨w2.heap.size, 6, none⟩ = some (.int .i64 T.g) := cell_of hd5 6
  have x7 : w5.cell? ⟨w2.heap.size, 7, none⟩ = some (.int .i64 T.h) := cell_of hd5 7
  clear hc5 hd5 hw5 hb5
  have e0 : T.b = s.a := by rw [← HT.out]; rfl
  have e1 : T.c = s.b := by rw [← HT.out]; rfl
  have e2 : T.d = s.c := by rw [← HT.out]; rfl
  have e3 : T.f = s.e := by rw [← HT.out]; rfl
  have e4 : T.g = s.f := by rw [← HT.out]; rfl
  have e5 : T.h = s.g := by rw [← HT.out]; rfl
  go_wp2_with fail
  exact bodyPost_ret (v := .bool true) (by simp [results, Tryd.results5, go_sem]) rfl ⟨rfl, HW5.out⟩
set_option maxRecDepth 100000 in
theorem words_word (s0 s1 s2 s3 s4 s5 s6 s7 : Int) (hbad : ¬ Words8 s0 s1 s2 s3 s4 s5 s6 s7) (i x : Int) {B : Nat} {aw ab : Addr} {w : World} (h : Glob B aw ab w) :
    Calls Tryd.prog 5 #[.agg #[.int .i64 s0, .int .i64 s1, .int .i64 s2, .int .i64 s3, .int .i64 s4, .int .i64 s5, .int .i64 s6, .int .i64 s7], .int .i64 i, .int .i64 x] w fun e w' => e = .returned (.bool true) ∧ Below w.heap.size w w' := by
  have H := Lib.hid h
  clear h
  have Hb := Lib.hid hbad
  clear hbad
  go_enter Tryd.func5, Tryd.ntmps5
  go_wp2_with fail
  refine (shown_any (H.out.below ((Below.refl B w).alloc H.out.size _))).mono ?_
  rintro e w1 ⟨rfl, hb1⟩
  have z1 : w.heap.size < w1.heap.size := by have := hb1.size; simp at this; omega
  have hc1 := (hb1.block w.heap.size (by simp)).trans (alloc_heap_at w (.cells #[.int .i64 s0, .int .i64 s1, .int .i64 s2, .int .i64 s3, .int .i64 s4, .int .i64 s5, .int .i64 s6, .int .i64 s7] 23) _ rfl)
  have hw1 : Below w.heap.size w w1 := ((Below.refl _ w).alloc (Nat.le_refl _) _).trans (hb1.mono (by simp))
  have y0 : w1.cell? ⟨w.heap.size, 0, none⟩ = some (.int .i64 s0) := cell_of hc1 0
  have y1 : w1.cell? ⟨w.heap.size, 1, none⟩ = some (.int .i64 s1) := cell_of hc1 1
  have y2 : w1.cell? ⟨w.heap.size, 2, none⟩ = some (.int .i64 s2) := cell_of hc1 2
  have y3 : w1.cell? ⟨w.heap.size, 3, none⟩ = some (.int .i64 s3) := cell_of hc1 3
  have y4 : w1.cell? ⟨w.heap.size, 4, none⟩ = some (.int .i64 s4) := cell_of hc1 4
  have y5 : w1.cell? ⟨w.heap.size, 5, none⟩ = some (.int .i64 s5) := cell_of hc1 5
  have y6 : w1.cell? ⟨w.heap.size, 6, none⟩ = some (.int .i64 s6) := cell_of hc1 6
  have y7 : w1.cell? ⟨w.heap.size, 7, none⟩ = some (.int .i64 s7) := cell_of hc1 7
  have HC1 := Lib.hid hc1
  have HW1 := Lib.hid hw1
  clear hb1 hc1 hw1
  go_wp2_with fail
  refine (round_word s0 s1 s2 s3 s4 s5 s6 s7 i x Hb.out (H.out.below (HW1.out.mono H.out.size))).mono ?_
  rintro e w2 ⟨rfl, hb2⟩
  have z2 : w.heap.size < w2.heap.size := Nat.lt_of_lt_of_le z1 hb2.size
  have hw2 : Below w.heap.size w w2 := HW1.out.trans (hb2.mono HW1.out.size)
  have hc2 := (hb2.block _ z1).trans HC1.out
  have hd2 := alloc_heap_old (.cells #[.int .i64 0, .int .i64 0, .int .i64 0, .int .i64 0, .int .i64 0, .int .i64 0, .int .i64 0, .int .i64 0] 23) hc2
  have he2 := alloc_heap_at w2 (.cells #[.int .i64 0, .int .i64 0, .int .i64 0, .int .i64 0, .int .i64 0, .int .i64 0, .int .i64 0, .int .i64 0] 23) _ rfl
  have hx2 : Below w.heap.size w (w2.alloc (.cells #[.int .i64 0, .int .i64 0, .int .i64 0, .int .i64 0, .int .i64 0, .int .i64 0, .int .i64 0, .int .i64 0] 23)) := hw2.alloc (by omega) _
  clear y0 y1 y2 y3 y4 y5 y6 y7
  go_upto_region 3 with (fail)
  generalize w2.alloc (.cells #[.int .i64 0, .int .i64 0, .int .i64 0, .int .i64 0, .int .i64 0, .int .i64 0, .int .i64 0, .int .i64 0] 23) = w3 at hd2 he2 hx2 ⊢
  have z3 : w2.heap.size < w3.heap.size := lt_of_heap he2
  have y0 : w3.cell? ⟨w.heap.size, 0, none⟩ = some (.int .i64 s0) := cell_of hd2 0
  have y1 : w3.cell? ⟨w.heap.size, 1, none⟩ = some (.int .i64 s1) := cell_of hd2 1
  have y2 : w3.cell? ⟨w.heap.size, 2, none⟩ = some (.int .i64 s2) := cell_of hd2 2
  have y3 : w3.cell? ⟨w.heap.size, 3, none⟩ = some (.int .i64 s3) := cell_of hd2 3
  have y4 : w3.cell? ⟨w.heap.size, 4, none⟩ = some (.int .i64 s4) := cell_of hd2 4
  have y5 : w3.cell? ⟨w.heap.size, 5, none⟩ = some (.int .i64 s5) := cell_of hd2 5
  have y6 : w3.cell? ⟨w.heap.size, 6, none⟩ = some (.int .i64 s6) := cell_of hd2 6
  have y7 : w3.cell? ⟨w.heap.size, 7, none⟩ = some (.int .i64 s7) := cell_of hd2 7
  have HD3 := Lib.hid hd2
  have HE3 := Lib.hid he2
  have HW3 := Lib.hid hx2
  clear hd2 he2 hx2 hc2 hw2 hb2
  go_wp2_with fail
  refine (bytes_bad s0 s1 s2 s3 s4 s5 s6 s7 Hb.out (H.out.below (HW3.out.mono H.out.size))).mono ?_
  rintro e w4 ⟨rfl, hb4⟩
  have hc4 := (hb4.block _ (lt_of_heap HD3.out)).trans HD3.out
  have hd4 := (hb4.block _ (lt_of_heap HE3.out)).trans HE3.out
  have hw4 : Below w.heap.size w w4 := HW3.out.trans (hb4.mono HW3.out.size)
  have HC4 := Lib.hid hc4
  have HD4 := Lib.hid hd4
  have HW4 := Lib.hid hw4
  clear y0 y1 y2 y3 y4 y5 y6 y7
  have y0 : w4.cell? ⟨w2.heap.size, 0, none⟩ = some (.int .i64 0) := cell_of hd4 0
  have y1 : w4.cell? ⟨w2.heap.size, 1, none⟩ = some (.int .i64 0) := cell_of hd4 1
  have y2 : w4.cell? ⟨w2.heap.size, 2, none⟩ = some (.int .i64 0) := cell_of hd4 2
  have y3 : w4.cell? ⟨w2.heap.size, 3, none⟩ = some (.int .i64 0) := cell_of hd4 3
  have y4 : w4.cell? ⟨w2.heap.size, 4, none⟩ = some (.int .i64 0) := cell_of hd4 4
  have y5 : w4.cell? ⟨w2.heap.size, 5, none⟩ = some (.int .i64 0) := cell_of hd4 5
  have y6 : w4.cell? ⟨w2.heap.size, 6, none⟩ = some (.int .i64 0) := cell_of hd4 6
  have y7 : w4.cell? ⟨w2.heap.size, 7, none⟩ = some (.int .i64 0) := cell_of hd4 7
  clear hc4 hd4 hw4 hb4
  go_wp2_with fail
  refine (bytes_ok Sha.St.zero zero_ok (H.out.below (HW4.out.mono H.out.size))).mono ?_
  rintro e w5 ⟨rfl, hb5⟩
  have hc5 := (hb5.block _ (lt_of_heap HC4.out)).trans HC4.out
  have hd5 := (hb5.block _ (lt_of_heap HD4.out)).trans HD4.out
  have hw5 : Below w.heap.size w w5 := HW4.out.trans (hb5.mono HW4.out.size)
  have HW5 := Lib.hid hw5
  clear y0 y1 y2 y3 y4 y5 y6 y7
  have y0 : w5.cell? ⟨w.heap.size, 0, none⟩ = some (.int .i64 s0) := cell_of hc5 0
  have y1 : w5.cell? ⟨w.heap.size, 1, none⟩ = some (.int .i64 s1) := cell_of hc5 1
  have y2 : w5.cell? ⟨w.heap.size, 2, none⟩ = some (.int .i64 s2) := cell_of hc5 2
  have y3 : w5.cell? ⟨w.heap.size, 3, none⟩ = some (.int .i64 s3) := cell_of hc5 3
  have y4 : w5.cell? ⟨w.heap.size, 4, none⟩ = some (.int .i64 s4) := cell_of hc5 4
  have y5 : w5.cell? ⟨w.heap.size, 5, none⟩ = some (.int .i64 s5) := cell_of hc5 5
  have y6 : w5.cell? ⟨w.heap.size, 6, none⟩ = some (.int .i64 s6) := cell_of hc5 6
  have y7 : w5.cell? ⟨w.heap.size, 7, none⟩ = some (.int .i64 s7) := cell_of hc5 7
  have x0 : w5.cell? ⟨w2.heap.size, 0, none⟩ = some (.int .i64 0) := cell_of hd5 0
  have x1 : w5.cell? ⟨w2.heap.size, 1, none⟩ = some (.int .i64 0) := cell_of hd5 1
  have x2 : w5.cell? ⟨w2.heap.size, 2, none⟩ = some (.int .i64 0) := cell_of hd5 2
  have x3 : w5.cell? ⟨w2.heap.size, 3, none⟩ = some (.int .i64 0) := cell_of hd5 3
  have x4 : w5.cell? ⟨w2.heap.size, 4, none⟩ = some (.int .i64 0) := cell_of hd5 4
  have x5 : w5.cell? ⟨w2.heap.size, 5, none⟩ = some (.int .i64 0) := cell_of hd5 5
  have x6 : w5.cell? ⟨w2.heap.size, 6, none⟩ = some (.int .i64 0) := cell_of hd5 6
  have x7 : w5.cell? ⟨w2.heap.size, 7, none⟩ = some (.int .i64 0) := cell_of hd5 7
  clear hc5 hd5 hw5 hb5
  go_wp2_with fail
  exact bodyPost_ret (v := .bool true) (by simp [results, Tryd.results5, go_sem]) rfl ⟨rfl, HW5.out⟩
set_option maxRecDepth 100000 in
theorem words_num0 (s : Sha.St) (hs : s.ok) (i x : Int) (c0 : i < 0) {B : Nat} {aw ab : Addr} {w : World} (h : Glob B aw ab w) :
    Calls Tryd.prog 5 #[.agg #[.int .i64 s.a, .int .i64 s.b, .int .i64 s.c, .int .i64 s.d, .int .i64 s.e, .int .i64 s.f, .int .i64 s.g, .int .i64 s.h], .int .i64 i, .int .i64 x] w fun e w' => e = .returned (.bool true) ∧ Below w.heap.size w w' := by
  have H := Lib.hid h
  clear h
  have hbad : ¬ (0 ≤ i ∧ i < 64 ∧ 0 ≤ x ∧ x ≤ 4294967295) := by omega
  have Hb := Lib.hid hbad
  have Hs := Lib.hid hs
  clear hbad hs
  go_enter Tryd.func5, Tryd.ntmps5
  go_wp2_with fail
  refine (shown_any (H.out.below ((Below.refl B w).alloc H.out.size _))).mono ?_
  rintro e w1 ⟨rfl, hb1⟩
  have z1 : w.heap.size < w1.heap.size := by have := hb1.size; simp at this; omega
  have hc1 := (hb1.block w.heap.size (by simp)).trans (alloc_heap_at w (.cells #[.int .i64 s.a, .int .i64 s.b, .int .i64 s.c, .int .i64 s.d, .int .i64 s.e, .int .i64 s.f, .int .i64 s.g, .int .i64 s.h] 23) _ rfl)
  have hw1 : Below w.heap.size w w1 := ((Below.refl _ w).alloc (Nat.le_refl _) _).trans (hb1.mono (by simp))
  have y0 : w1.cell? ⟨w.heap.size, 0, none⟩ = some (.int .i64 s.a) := cell_of hc1 0
  have y1 : w1.cell? ⟨w.heap.size, 1, none⟩ = some (.int .i64 s.b) := cell_of hc1 1
  have y2 : w1.cell? ⟨w.heap.size, 2, none⟩ = some (.int .i64 s.c) := cell_of hc1 2
  have y3 : w1.cell? ⟨w.heap.size, 3, none⟩ = some (.int .i64 s.d) := cell_of hc1 3
  have y4 : w1.cell? ⟨w.heap.size, 4, none⟩ = some (.int .i64 s.e) := cell_of hc1 4
  have y5 : w1.cell? ⟨w.heap.size, 5, none⟩ = some (.int .i64 s.f) := cell_of hc1 5
  have y6 : w1.cell? ⟨w.heap.size, 6, none⟩ = some (.int .i64 s.g) := cell_of hc1 6
  have y7 : w1.cell? ⟨w.heap.size, 7, none⟩ = some (.int .i64 s.h) := cell_of hc1 7
  have HC1 := Lib.hid hc1
  have HW1 := Lib.hid hw1
  clear hb1 hc1 hw1
  go_wp2_with fail
  refine (round_num s Hs.out i x Hb.out (H.out.below (HW1.out.mono H.out.size))).mono ?_
  rintro e w2 ⟨rfl, hb2⟩
  have z2 : w.heap.size < w2.heap.size := Nat.lt_of_lt_of_le z1 hb2.size
  have hw2 : Below w.heap.size w w2 := HW1.out.trans (hb2.mono HW1.out.size)
  have hc2 := (hb2.block _ z1).trans HC1.out
  have hd2 := alloc_heap_old (.cells #[.int .i64 0, .int .i64 0, .int .i64 0, .int .i64 0, .int .i64 0, .int .i64 0, .int .i64 0, .int .i64 0] 23) hc2
  have he2 := alloc_heap_at w2 (.cells #[.int .i64 0, .int .i64 0, .int .i64 0, .int .i64 0, .int .i64 0, .int .i64 0, .int .i64 0, .int .i64 0] 23) _ rfl
  have hx2 : Below w.heap.size w (w2.alloc (.cells #[.int .i64 0, .int .i64 0, .int .i64 0, .int .i64 0, .int .i64 0, .int .i64 0, .int .i64 0, .int .i64 0] 23)) := hw2.alloc (by omega) _
  clear y0 y1 y2 y3 y4 y5 y6 y7
  go_upto_region 3 with (fail)
  generalize w2.alloc (.cells #[.int .i64 0, .int .i64 0, .int .i64 0, .int .i64 0, .int .i64 0, .int .i64 0, .int .i64 0, .int .i64 0] 23) = w3 at hd2 he2 hx2 ⊢
  have z3 : w2.heap.size < w3.heap.size := lt_of_heap he2
  have y0 : w3.cell? ⟨w.heap.size, 0, none⟩ = some (.int .i64 s.a) := cell_of hd2 0
  have y1 : w3.cell? ⟨w.heap.size, 1, none⟩ = some (.int .i64 s.b) := cell_of hd2 1
  have y2 : w3.cell? ⟨w.heap.size, 2, none⟩ = some (.int .i64 s.c) := cell_of hd2 2
  have y3 : w3.cell? ⟨w.heap.size, 3, none⟩ = some (.int .i64 s.d) := cell_of hd2 3
  have y4 : w3.cell? ⟨w.heap.size, 4, none⟩ = some (.int .i64 s.e) := cell_of hd2 4
  have y5 : w3.cell? ⟨w.heap.size, 5, none⟩ = some (.int .i64 s.f) := cell_of hd2 5
  have y6 : w3.cell? ⟨w.heap.size, 6, none⟩ = some (.int .i64 s.g) := cell_of hd2 6
  have y7 : w3.cell? ⟨w.heap.size, 7, none⟩ = some (.int .i64 s.h) := cell_of hd2 7
  have HD3 := Lib.hid hd2
  have HE3 := Lib.hid he2
  have HW3 := Lib.hid hx2
  clear hd2 he2 hx2 hc2 hw2 hb2
  go_wp2_with fail
  refine (bytes_ok s Hs.out (H.out.below (HW3.out.mono H.out.size))).mono ?_
  rintro e w4 ⟨rfl, hb4⟩
  have hc4 := (hb4.block _ (lt_of_heap HD3.out)).trans HD3.out
  have hd4 := (hb4.block _ (lt_of_heap HE3.out)).trans HE3.out
  have hw4 : Below w.heap.size w w4 := HW3.out.trans (hb4.mono HW3.out.size)
  have HC4 := Lib.hid hc4
  have HD4 := Lib.hid hd4
  have HW4 := Lib.hid hw4
  clear y0 y1 y2 y3 y4 y5 y6 y7
  have y0 : w4.cell? ⟨w2.heap.size, 0, none⟩ = some (.int .i64 0) := cell_of hd4 0
  have y1 : w4.cell? ⟨w2.heap.size, 1, none⟩ = some (.int .i64 0) := cell_of hd4 1
  have y2 : w4.cell? ⟨w2.heap.size, 2, none⟩ = some (.int .i64 0) := cell_of hd4 2
  have y3 : w4.cell? ⟨w2.heap.size, 3, none⟩ = some (.int .i64 0) := cell_of hd4 3
  have y4 : w4.cell? ⟨w2.heap.size, 4, none⟩ = some (.int .i64 0) := cell_of hd4 4
  have y5 : w4.cell? ⟨w2.heap.size, 5, none⟩ = some (.int .i64 0) := cell_of hd4 5
  have y6 : w4.cell? ⟨w2.heap.size, 6, none⟩ = some (.int .i64 0) := cell_of hd4 6
  have y7 : w4.cell? ⟨w2.heap.size, 7, none⟩ = some (.int .i64 0) := cell_of hd4 7
  clear hc4 hd4 hw4 hb4
  go_wp2_with fail
  refine (bytes_ok Sha.St.zero zero_ok (H.out.below (HW4.out.mono H.out.size))).mono ?_
  rintro e w5 ⟨rfl, hb5⟩
  have hc5 := (hb5.block _ (lt_of_heap HC4.out)).trans HC4.out
  have hd5 := (hb5.block _ (lt_of_heap HD4.out)).trans HD4.out
  have hw5 : Below w.heap.size w w5 := HW4.out.trans (hb5.mono HW4.out.size)
  have HW5 := Lib.hid hw5
  clear y0 y1 y2 y3 y4 y5 y6 y7
  have y0 : w5.cell? ⟨w.heap.size, 0, none⟩ = some (.int .i64 s.a) := cell_of hc5 0
  have y1 : w5.cell? ⟨w.heap.size, 1, none⟩ = some (.int .i64 s.b) := cell_of hc5 1
  have y2 : w5.cell? ⟨w.heap.size, 2, none⟩ = some (.int .i64 s.c) := cell_of hc5 2
  have y3 : w5.cell? ⟨w.heap.size, 3, none⟩ = some (.int .i64 s.d) := cell_of hc5 3
  have y4 : w5.cell? ⟨w.heap.size, 4, none⟩ = some (.int .i64 s.e) := cell_of hc5 4
  have y5 : w5.cell? ⟨w.heap.size, 5, none⟩ = some (.int .i64 s.f) := cell_of hc5 5
  have y6 : w5.cell? ⟨w.heap.size, 6, none⟩ = some (.int .i64 s.g) := cell_of hc5 6
  have y7 : w5.cell? ⟨w.heap.size, 7, none⟩ = some (.int .i64 s.h) := cell_of hc5 7
  have x0 : w5.cell? ⟨w2.heap.size, 0, none⟩ = some (.int .i64 0) := cell_of hd5 0
  have x1 : w5.cell? ⟨w2.heap.size, 1, none⟩ = some (.int .i64 0) := cell_of hd5 1
  have x2 : w5.cell? ⟨w2.heap.size, 2, none⟩ = some (.int .i64 0) := cell_of hd5 2
  have x3 : w5.cell? ⟨w2.heap.size, 3, none⟩ = some (.int .i64 0) := cell_of hd5 3
  have x4 : w5.cell? ⟨w2.heap.size, 4, none⟩ = some (.int .i64 0) := cell_of hd5 4
  have x5 : w5.cell? ⟨w2.heap.size, 5, none⟩ = some (.int .i64 0) := cell_of hd5 5
  have x6 : w5.cell? ⟨w2.heap.size, 6, none⟩ = some (.int .i64 0) := cell_of hd5 6
  have x7 : w5.cell? ⟨w2.heap.size, 7, none⟩ = some (.int .i64 0) := cell_of hd5 7
  clear hc5 hd5 hw5 hb5
  go_wp2_with fail
  exact bodyPost_ret (v := .bool true) (by simp [results, Tryd.results5, go_sem]) rfl ⟨rfl, HW5.out⟩
set_option maxRecDepth 100000 in
theorem words_num1 (s : Sha.St) (hs : s.ok) (i x : Int) (c0 : 0 ≤ i) (c1 : 63 < i) {B : Nat} {aw ab : Addr} {w : World} (h : Glob B aw ab w) :
    Calls Tryd.prog 5 #[.agg #[.int .i64 s.a, .int .i64 s.b, .int .i64 s.c, .int .i64 s.d, .int .i64 s.e, .int .i64 s.f, .int .i64 s.g, .int .i64 s.h], .int .i64 i, .int .i64 x] w fun e w' => e = .returned (.bool true) ∧ Below w.heap.size w w' := by
  have H := Lib.hid h
  clear h
  have hbad : ¬ (0 ≤ i ∧ i < 64 ∧ 0 ≤ x ∧ x ≤ 4294967295) := by omega
  have Hb := Lib.hid hbad
  have Hs := Lib.hid hs
  clear hbad hs
  go_enter Tryd.func5, Tryd.ntmps5
  go_wp2_with fail
  refine (shown_any (H.out.below ((Below.refl B w).alloc H.out.size _))).mono ?_
  rintro e w1 ⟨rfl, hb1⟩
  have z1 : w.heap.size < w1.heap.size := by have := hb1.size; simp at this; omega
  have hc1 := (hb1.block w.heap.size (by simp)).trans (alloc_heap_at w (.cells #[.int .i64 s.a, .int .i64 s.b, .int .i64 s.c, .int .i64 s.d, .int .i64 s.e, .int .i64 s.f, .int .i64 s.g, .int .i64 s.h] 23) _ rfl)
  have hw1 : Below w.heap.size w w1 := ((Below.refl _ w).alloc (Nat.le_refl _) _).trans (hb1.mono (by simp))
  have y0 : w1.cell? ⟨w.heap.size, 0, none⟩ = some (.int .i64 s.a) := cell_of hc1 0
  have y1 : w1.cell? ⟨w.heap.size, 1, none⟩ = some (.int .i64 s.b) := cell_of hc1 1
  have y2 : w1.cell? ⟨w.heap.size, 2, none⟩ = some (.int .i64 s.c) := cell_of hc1 2
  have y3 : w1.cell? ⟨w.heap.size, 3, none⟩ = some (.int .i64 s.d) := cell_of hc1 3
  have y4 : w1.cell? ⟨w.heap.size, 4, none⟩ = some (.int .i64 s.e) := cell_of hc1 4
  have y5 : w1.cell? ⟨w.heap.size, 5, none⟩ = some (.int .i64 s.f) := cell_of hc1 5
  have y6 : w1.cell? ⟨w.heap.size, 6, none⟩ = some (.int .i64 s.g) := cell_of hc1 6
  have y7 : w1.cell? ⟨w.heap.size, 7, none⟩ = some (.int .i64 s.h) := cell_of hc1 7
  have HC1 := Lib.hid hc1
  have HW1 := Lib.hid hw1
  clear hb1 hc1 hw1
  go_wp2_with fail
  refine (round_num s Hs.out i x Hb.out (H.out.below (HW1.out.mono H.out.size))).mono ?_
  rintro e w2 ⟨rfl, hb2⟩
  have z2 : w.heap.size < w2.heap.size := Nat.lt_of_lt_of_le z1 hb2.size
  have hw2 : Below w.heap.size w w2 := HW1.out.trans (hb2.mono HW1.out.size)
  have hc2 := (hb2.block _ z1).trans HC1.out
  have hd2 := alloc_heap_old (.cells #[.int .i64 0, .int .i64 0, .int .i64 0, .int .i64 0, .int .i64 0, .int .i64 0, .int .i64 0, .int .i64 0] 23) hc2
  have he2 := alloc_heap_at w2 (.cells #[.int .i64 0, .int .i64 0, .int .i64 0, .int .i64 0, .int .i64 0, .int .i64 0, .int .i64 0, .int .i64 0] 23) _ rfl
  have hx2 : Below w.heap.size w (w2.alloc (.cells #[.int .i64 0, .int .i64 0, .int .i64 0, .int .i64 0, .int .i64 0, .int .i64 0, .int .i64 0, .int .i64 0] 23)) := hw2.alloc (by omega) _
  clear y0 y1 y2 y3 y4 y5 y6 y7
  go_upto_region 3 with (fail)
  generalize w2.alloc (.cells #[.int .i64 0, .int .i64 0, .int .i64 0, .int .i64 0, .int .i64 0, .int .i64 0, .int .i64 0, .int .i64 0] 23) = w3 at hd2 he2 hx2 ⊢
  have z3 : w2.heap.size < w3.heap.size := lt_of_heap he2
  have y0 : w3.cell? ⟨w.heap.size, 0, none⟩ = some (.int .i64 s.a) := cell_of hd2 0
  have y1 : w3.cell? ⟨w.heap.size, 1, none⟩ = some (.int .i64 s.b) := cell_of hd2 1
  have y2 : w3.cell? ⟨w.heap.size, 2, none⟩ = some (.int .i64 s.c) := cell_of hd2 2
  have y3 : w3.cell? ⟨w.heap.size, 3, none⟩ = some (.int .i64 s.d) := cell_of hd2 3
  have y4 : w3.cell? ⟨w.heap.size, 4, none⟩ = some (.int .i64 s.e) := cell_of hd2 4
  have y5 : w3.cell? ⟨w.heap.size, 5, none⟩ = some (.int .i64 s.f) := cell_of hd2 5
  have y6 : w3.cell? ⟨w.heap.size, 6, none⟩ = some (.int .i64 s.g) := cell_of hd2 6
  have y7 : w3.cell? ⟨w.heap.size, 7, none⟩ = some (.int .i64 s.h) := cell_of hd2 7
  have HD3 := Lib.hid hd2
  have HE3 := Lib.hid he2
  have HW3 := Lib.hid hx2
  clear hd2 he2 hx2 hc2 hw2 hb2
  go_wp2_with fail
  refine (bytes_ok s Hs.out (H.out.below (HW3.out.mono H.out.size))).mono ?_
  rintro e w4 ⟨rfl, hb4⟩
  have hc4 := (hb4.block _ (lt_of_heap HD3.out)).trans HD3.out
  have hd4 := (hb4.block _ (lt_of_heap HE3.out)).trans HE3.out
  have hw4 : Below w.heap.size w w4 := HW3.out.trans (hb4.mono HW3.out.size)
  have HC4 := Lib.hid hc4
  have HD4 := Lib.hid hd4
  have HW4 := Lib.hid hw4
  clear y0 y1 y2 y3 y4 y5 y6 y7
  have y0 : w4.cell? ⟨w2.heap.size, 0, none⟩ = some (.int .i64 0) := cell_of hd4 0
  have y1 : w4.cell? ⟨w2.heap.size, 1, none⟩ = some (.int .i64 0) := cell_of hd4 1
  have y2 : w4.cell? ⟨w2.heap.size, 2, none⟩ = some (.int .i64 0) := cell_of hd4 2
  have y3 : w4.cell? ⟨w2.heap.size, 3, none⟩ = some (.int .i64 0) := cell_of hd4 3
  have y4 : w4.cell? ⟨w2.heap.size, 4, none⟩ = some (.int .i64 0) := cell_of hd4 4
  have y5 : w4.cell? ⟨w2.heap.size, 5, none⟩ = some (.int .i64 0) := cell_of hd4 5
  have y6 : w4.cell? ⟨w2.heap.size, 6, none⟩ = some (.int .i64 0) := cell_of hd4 6
  have y7 : w4.cell? ⟨w2.heap.size, 7, none⟩ = some (.int .i64 0) := cell_of hd4 7
  clear hc4 hd4 hw4 hb4
  go_wp2_with fail
  refine (bytes_ok Sha.St.zero zero_ok (H.out.below (HW4.out.mono H.out.size))).mono ?_
  rintro e w5 ⟨rfl, hb5⟩
  have hc5 := (hb5.block _ (lt_of_heap HC4.out)).trans HC4.out
  have hd5 := (hb5.block _ (lt_of_heap HD4.out)).trans HD4.out
  have hw5 : Below w.heap.size w w5 := HW4.out.trans (hb5.mono HW4.out.size)
  have HW5 := Lib.hid hw5
  clear y0 y1 y2 y3 y4 y5 y6 y7
  have y0 : w5.cell? ⟨w.heap.size, 0, none⟩ = some (.int .i64 s.a) := cell_of hc5 0
  have y1 : w5.cell? ⟨w.heap.size, 1, none⟩ = some (.int .i64 s.b) := cell_of hc5 1
  have y2 : w5.cell? ⟨w.heap.size, 2, none⟩ = some (.int .i64 s.c) := cell_of hc5 2
  have y3 : w5.cell? ⟨w.heap.size, 3, none⟩ = some (.int .i64 s.d) := cell_of hc5 3
  have y4 : w5.cell? ⟨w.heap.size, 4, none⟩ = some (.int .i64 s.e) := cell_of hc5 4
  have y5 : w5.cell? ⟨w.heap.size, 5, none⟩ = some (.int .i64 s.f) := cell_of hc5 5
  have y6 : w5.cell? ⟨w.heap.size, 6, none⟩ = some (.int .i64 s.g) := cell_of hc5 6
  have y7 : w5.cell? ⟨w.heap.size, 7, none⟩ = some (.int .i64 s.h) := cell_of hc5 7
  have x0 : w5.cell? ⟨w2.heap.size, 0, none⟩ = some (.int .i64 0) := cell_of hd5 0
  have x1 : w5.cell? ⟨w2.heap.size, 1, none⟩ = some (.int .i64 0) := cell_of hd5 1
  have x2 : w5.cell? ⟨w2.heap.size, 2, none⟩ = some (.int .i64 0) := cell_of hd5 2
  have x3 : w5.cell? ⟨w2.heap.size, 3, none⟩ = some (.int .i64 0) := cell_of hd5 3
  have x4 : w5.cell? ⟨w2.heap.size, 4, none⟩ = some (.int .i64 0) := cell_of hd5 4
  have x5 : w5.cell? ⟨w2.heap.size, 5, none⟩ = some (.int .i64 0) := cell_of hd5 5
  have x6 : w5.cell? ⟨w2.heap.size, 6, none⟩ = some (.int .i64 0) := cell_of hd5 6
  have x7 : w5.cell? ⟨w2.heap.size, 7, none⟩ = some (.int .i64 0) := cell_of hd5 7
  clear hc5 hd5 hw5 hb5
  go_wp2_with fail
  exact bodyPost_ret (v := .bool true) (by simp [results, Tryd.results5, go_sem]) rfl ⟨rfl, HW5.out⟩
set_option maxRecDepth 100000 in
theorem words_num2 (s : Sha.St) (hs : s.ok) (i x : Int) (c0 : 0 ≤ i) (c1 : i ≤ 63) (c2 : x < 0) {B : Nat} {aw ab : Addr} {w : World} (h : Glob B aw ab w) :
    Calls Tryd.prog 5 #[.agg #[.int .i64 s.a, .int .i64 s.b, .int .i64 s.c, .int .i64 s.d, .int .i64 s.e, .int .i64 s.f, .int .i64 s.g, .int .i64 s.h], .int .i64 i, .int .i64 x] w fun e w' => e = .returned (.bool true) ∧ Below w.heap.size w w' := by
  have H := Lib.hid h
  clear h
  have hbad : ¬ (0 ≤ i ∧ i < 64 ∧ 0 ≤ x ∧ x ≤ 4294967295) := by omega
  have Hb := Lib.hid hbad
  have Hs := Lib.hid hs
  clear hbad hs
  go_enter Tryd.func5, Tryd.ntmps5
  go_wp2_with fail
  refine (shown_any (H.out.below ((Below.refl B w).alloc H.out.size _))).mono ?_
  rintro e w1 ⟨rfl, hb1⟩
  have z1 : w.heap.size < w1.heap.size := by have := hb1.size; simp at this; omega
  have hc1 := (hb1.block w.heap.size (by simp)).trans (alloc_heap_at w (.cells #[.int .i64 s.a, .int .i64 s.b, .int .i64 s.c, .int .i64 s.d, .int .i64 s.e, .int .i64 s.f, .int .i64 s.g, .int .i64 s.h] 23) _ rfl)
  have hw1 : Below w.heap.size w w1 := ((Below.refl _ w).alloc (Nat.le_refl _) _).trans (hb1.mono (by simp))
  have y0 : w1.cell? ⟨w.heap.size, 0, none⟩ = some (.int .i64 s.a) := cell_of hc1 0
  have y1 : w1.cell? ⟨w.heap.size, 1, none⟩ = some (.int .i64 s.b) := cell_of hc1 1
  have y2 : w1.cell? ⟨w.heap.size, 2, none⟩ = some (.int .i64 s.c) := cell_of hc1 2
  have y3 : w1.cell? ⟨w.heap.size, 3, none⟩ = some (.int .i64 s.d) := cell_of hc1 3
  have y4 : w1.cell? ⟨w.heap.size, 4, none⟩ = some (.int .i64 s.e) := cell_of hc1 4
  have y5 : w1.cell? ⟨w.heap.size, 5, none⟩ = some (.int .i64 s.f) := cell_of hc1 5
  have y6 : w1.cell? ⟨w.heap.size, 6, none⟩ = some (.int .i64 s.g) := cell_of hc1 6
  have y7 : w1.cell? ⟨w.heap.size, 7, none⟩ = some (.int .i64 s.h) := cell_of hc1 7
  have HC1 := Lib.hid hc1
  have HW1 := Lib.hid hw1
  clear hb1 hc1 hw1
  go_wp2_with fail
  refine (round_num s Hs.out i x Hb.out (H.out.below (HW1.out.mono H.out.size))).mono ?_
  rintro e w2 ⟨rfl, hb2⟩
  have z2 : w.heap.size < w2.heap.size := Nat.lt_of_lt_of_le z1 hb2.size
  have hw2 : Below w.heap.size w w2 := HW1.out.trans (hb2.mono HW1.out.size)
  have hc2 := (hb2.block _ z1).trans HC1.out
  have hd2 := alloc_heap_old (.cells #[.int .i64 0, .int .i64 0, .int .i64 0, .int .i64 0, .int .i64 0, .int .i64 0, .int .i64 0, .int .i64 0] 23) hc2
  have he2 := alloc_heap_at w2 (.cells #[.int .i64 0, .int .i64 0, .int .i64 0, .int .i64 0, .int .i64 0, .int .i64 0, .int .i64 0, .int .i64 0] 23) _ rfl
  have hx2 : Below w.heap.size w (w2.alloc (.cells #[.int .i64 0, .int .i64 0, .int .i64 0, .int .i64 0, .int .i64 0, .int .i64 0, .int .i64 0, .int .i64 0] 23)) := hw2.alloc (by omega) _
  clear y0 y1 y2 y3 y4 y5 y6 y7
  go_upto_region 3 with (fail)
  generalize w2.alloc (.cells #[.int .i64 0, .int .i64 0, .int .i64 0, .int .i64 0, .int .i64 0, .int .i64 0, .int .i64 0, .int .i64 0] 23) = w3 at hd2 he2 hx2 ⊢
  have z3 : w2.heap.size < w3.heap.size := lt_of_heap he2
  have y0 : w3.cell? ⟨w.heap.size, 0, none⟩ = some (.int .i64 s.a) := cell_of hd2 0
  have y1 : w3.cell? ⟨w.heap.size, 1, none⟩ = some (.int .i64 s.b) := cell_of hd2 1
  have y2 : w3.cell? ⟨w.heap.size, 2, none⟩ = some (.int .i64 s.c) := cell_of hd2 2
  have y3 : w3.cell? ⟨w.heap.size, 3, none⟩ = some (.int .i64 s.d) := cell_of hd2 3
  have y4 : w3.cell? ⟨w.heap.size, 4, none⟩ = some (.int .i64 s.e) := cell_of hd2 4
  have y5 : w3.cell? ⟨w.heap.size, 5, none⟩ = some (.int .i64 s.f) := cell_of hd2 5
  have y6 : w3.cell? ⟨w.heap.size, 6, none⟩ = some (.int .i64 s.g) := cell_of hd2 6
  have y7 : w3.cell? ⟨w.heap.size, 7, none⟩ = some (.int .i64 s.h) := cell_of hd2 7
  have HD3 := Lib.hid hd2
  have HE3 := Lib.hid he2
  have HW3 := Lib.hid hx2
  clear hd2 he2 hx2 hc2 hw2 hb2
  go_wp2_with fail
  refine (bytes_ok s Hs.out (H.out.below (HW3.out.mono H.out.size))).mono ?_
  rintro e w4 ⟨rfl, hb4⟩
  have hc4 := (hb4.block _ (lt_of_heap HD3.out)).trans HD3.out
  have hd4 := (hb4.block _ (lt_of_heap HE3.out)).trans HE3.out
  have hw4 : Below w.heap.size w w4 := HW3.out.trans (hb4.mono HW3.out.size)
  have HC4 := Lib.hid hc4
  have HD4 := Lib.hid hd4
  have HW4 := Lib.hid hw4
  clear y0 y1 y2 y3 y4 y5 y6 y7
  have y0 : w4.cell? ⟨w2.heap.size, 0, none⟩ = some (.int .i64 0) := cell_of hd4 0
  have y1 : w4.cell? ⟨w2.heap.size, 1, none⟩ = some (.int .i64 0) := cell_of hd4 1
  have y2 : w4.cell? ⟨w2.heap.size, 2, none⟩ = some (.int .i64 0) := cell_of hd4 2
  have y3 : w4.cell? ⟨w2.heap.size, 3, none⟩ = some (.int .i64 0) := cell_of hd4 3
  have y4 : w4.cell? ⟨w2.heap.size, 4, none⟩ = some (.int .i64 0) := cell_of hd4 4
  have y5 : w4.cell? ⟨w2.heap.size, 5, none⟩ = some (.int .i64 0) := cell_of hd4 5
  have y6 : w4.cell? ⟨w2.heap.size, 6, none⟩ = some (.int .i64 0) := cell_of hd4 6
  have y7 : w4.cell? ⟨w2.heap.size, 7, none⟩ = some (.int .i64 0) := cell_of hd4 7
  clear hc4 hd4 hw4 hb4
  go_wp2_with fail
  refine (bytes_ok Sha.St.zero zero_ok (H.out.below (HW4.out.mono H.out.size))).mono ?_
  rintro e w5 ⟨rfl, hb5⟩
  have hc5 := (hb5.block _ (lt_of_heap HC4.out)).trans HC4.out
  have hd5 := (hb5.block _ (lt_of_heap HD4.out)).trans HD4.out
  have hw5 : Below w.heap.size w w5 := HW4.out.trans (hb5.mono HW4.out.size)
  have HW5 := Lib.hid hw5
  clear y0 y1 y2 y3 y4 y5 y6 y7
  have y0 : w5.cell? ⟨w.heap.size, 0, none⟩ = some (.int .i64 s.a) := cell_of hc5 0
  have y1 : w5.cell? ⟨w.heap.size, 1, none⟩ = some (.int .i64 s.b) := cell_of hc5 1
  have y2 : w5.cell? ⟨w.heap.size, 2, none⟩ = some (.int .i64 s.c) := cell_of hc5 2
  have y3 : w5.cell? ⟨w.heap.size, 3, none⟩ = some (.int .i64 s.d) := cell_of hc5 3
  have y4 : w5.cell? ⟨w.heap.size, 4, none⟩ = some (.int .i64 s.e) := cell_of hc5 4
  have y5 : w5.cell? ⟨w.heap.size, 5, none⟩ = some (.int .i64 s.f) := cell_of hc5 5
  have y6 : w5.cell? ⟨w.heap.size, 6, none⟩ = some (.int .i64 s.g) := cell_of hc5 6
  have y7 : w5.cell? ⟨w.heap.size, 7, none⟩ = some (.int .i64 s.h) := cell_of hc5 7
  have x0 : w5.cell? ⟨w2.heap.size, 0, none⟩ = some (.int .i64 0) := cell_of hd5 0
  have x1 : w5.cell? ⟨w2.heap.size, 1, none⟩ = some (.int .i64 0) := cell_of hd5 1
  have x2 : w5.cell? ⟨w2.heap.size, 2, none⟩ = some (.int .i64 0) := cell_of hd5 2
  have x3 : w5.cell? ⟨w2.heap.size, 3, none⟩ = some (.int .i64 0) := cell_of hd5 3
  have x4 : w5.cell? ⟨w2.heap.size, 4, none⟩ = some (.int .i64 0) := cell_of hd5 4
  have x5 : w5.cell? ⟨w2.heap.size, 5, none⟩ = some (.int .i64 0) := cell_of hd5 5
  have x6 : w5.cell? ⟨w2.heap.size, 6, none⟩ = some (.int .i64 0) := cell_of hd5 6
  have x7 : w5.cell? ⟨w2.heap.size, 7, none⟩ = some (.int .i64 0) := cell_of hd5 7
  clear hc5 hd5 hw5 hb5
  go_wp2_with fail
  exact bodyPost_ret (v := .bool true) (by simp [results, Tryd.results5, go_sem]) rfl ⟨rfl, HW5.out⟩
set_option maxRecDepth 100000 in
theorem words_num3 (s : Sha.St) (hs : s.ok) (i x : Int) (c0 : 0 ≤ i) (c1 : i ≤ 63) (c2 : 0 ≤ x) (c3 : 4294967295 < x) {B : Nat} {aw ab : Addr} {w : World} (h : Glob B aw ab w) :
    Calls Tryd.prog 5 #[.agg #[.int .i64 s.a, .int .i64 s.b, .int .i64 s.c, .int .i64 s.d, .int .i64 s.e, .int .i64 s.f, .int .i64 s.g, .int .i64 s.h], .int .i64 i, .int .i64 x] w fun e w' => e = .returned (.bool true) ∧ Below w.heap.size w w' := by
  have H := Lib.hid h
  clear h
  have hbad : ¬ (0 ≤ i ∧ i < 64 ∧ 0 ≤ x ∧ x ≤ 4294967295) := by omega
  have Hb := Lib.hid hbad
  have Hs := Lib.hid hs
  clear hbad hs
  go_enter Tryd.func5, Tryd.ntmps5
  go_wp2_with fail
  refine (shown_any (H.out.below ((Below.refl B w).alloc H.out.size _))).mono ?_
  rintro e w1 ⟨rfl, hb1⟩
  have z1 : w.heap.size < w1.heap.size := by have := hb1.size; simp at this; omega
  have hc1 := (hb1.block w.heap.size (by simp)).trans (alloc_heap_at w (.cells #[.int .i64 s.a, .int .i64 s.b, .int .i64 s.c, .int .i64 s.d, .int .i64 s.e, .int .i64 s.f, .int .i64 s.g, .int .i64 s.h] 23) _ rfl)
  have hw1 : Below w.heap.size w w1 := ((Below.refl _ w).alloc (Nat.le_refl _) _).trans (hb1.mono (by simp))
  have y0 : w1.cell? ⟨w.heap.size, 0, none⟩ = some (.int .i64 s.a) := cell_of hc1 0
  have y1 : w1.cell? ⟨w.heap.size, 1, none⟩ = some (.int .i64 s.b) := cell_of hc1 1
  have y2 : w1.cell? ⟨w.heap.size, 2, none⟩ = some (.int .i64 s.c) := cell_of hc1 2
  have y3 : w1.cell? ⟨w.heap.size, 3, none⟩ = some (.int .i64 s.d) := cell_of hc1 3
  have y4 : w1.cell? ⟨w.heap.size, 4, none⟩ = some (.int .i64 s.e) := cell_of hc1 4
  have y5 : w1.cell? ⟨w.heap.size, 5, none⟩ = some (.int .i64 s.f) := cell_of hc1 5
  have y6 : w1.cell? ⟨w.heap.size, 6, none⟩ = some (.int .i64 s.g) := cell_of hc1 6
  have y7 : w1.cell? ⟨w.heap.size, 7, none⟩ = some (.int .i64 s.h) := cell_of hc1 7
  have HC1 := Lib.hid hc1
  have HW1 := Lib.hid hw1
  clear hb1 hc1 hw1
  go_wp2_with fail
  refine (round_num s Hs.out i x Hb.out (H.out.below (HW1.out.mono H.out.size))).mono ?_
  rintro e w2 ⟨rfl, hb2⟩
  have z2 : w.heap.size < w2.heap.size := Nat.lt_of_lt_of_le z1 hb2.size
  have hw2 : Below w.heap.size w w2 := HW1.out.trans (hb2.mono HW1.out.size)
  have hc2 := (hb2.block _ z1).trans HC1.out
  have hd2 := alloc_heap_old (.cells #[.int .i64 0, .int .i64 0, .int .i64 0, .int .i64 0, .int .i64 0, .int .i64 0, .int .i64 0, .int .i64 0] 23) hc2
  have he2 := alloc_heap_at w2 (.cells #[.int .i64 0, .int .i64 0, .int .i64 0, .int .i64 0, .int .i64 0, .int .i64 0, .int .i64 0, .int .i64 0] 23) _ rfl
  have hx2 : Below w.heap.size w (w2.alloc (.cells #[.int .i64 0, .int .i64 0, .int .i64 0, .int .i64 0, .int .i64 0, .int .i64 0, .int .i64 0, .int .i64 0] 23)) := hw2.alloc (by omega) _
  clear y0 y1 y2 y3 y4 y5 y6 y7
  go_upto_region 3 with (fail)
  generalize w2.alloc (.cells #[.int .i64 0, .int .i64 0, .int .i64 0, .int .i64 0, .int .i64 0, .int .i64 0, .int .i64 0, .int .i64 0] 23) = w3 at hd2 he2 hx2 ⊢
  have z3 : w2.heap.size < w3.heap.size := lt_of_heap he2
  have y0 : w3.cell? ⟨w.heap.size, 0, none⟩ = some (.int .i64 s.a) := cell_of hd2 0
  have y1 : w3.cell? ⟨w.heap.size, 1, none⟩ = some (.int .i64 s.b) := cell_of hd2 1
  have y2 : w3.cell? ⟨w.heap.size, 2, none⟩ = some (.int .i64 s.c) := cell_of hd2 2
  have y3 : w3.cell? ⟨w.heap.size, 3, none⟩ = some (.int .i64 s.d) := cell_of hd2 3
  have y4 : w3.cell? ⟨w.heap.size, 4, none⟩ = some (.int .i64 s.e) := cell_of hd2 4
  have y5 : w3.cell? ⟨w.heap.size, 5, none⟩ = some (.int .i64 s.f) := cell_of hd2 5
  have y6 : w3.cell? ⟨w.heap.size, 6, none⟩ = some (.int .i64 s.g) := cell_of hd2 6
  have y7 : w3.cell? ⟨w.heap.size, 7, none⟩ = some (.int .i64 s.h) := cell_of hd2 7
  have HD3 := Lib.hid hd2
  have HE3 := Lib.hid he2
  have HW3 := Lib.hid hx2
  clear hd2 he2 hx2 hc2 hw2 hb2
  go_wp2_with fail
  refine (bytes_ok s Hs.out (H.out.below (HW3.out.mono H.out.size))).mono ?_
  rintro e w4 ⟨rfl, hb4⟩
  have hc4 := (hb4.block _ (lt_of_heap HD3.out)).trans HD3.out
  have hd4 := (hb4.block _ (lt_of_heap HE3.out)).trans HE3.out
  have hw4 : Below w.heap.size w w4 := HW3.out.trans (hb4.mono HW3.out.size)
  have HC4 := Lib.hid hc4
  have HD4 := Lib.hid hd4
  have HW4 := Lib.hid hw4
  clear y0 y1 y2 y3 y4 y5 y6 y7
  have y0 : w4.cell? ⟨w2.heap.size, 0, none⟩ = some (.int .i64 0) := cell_of hd4 0
  have y1 : w4.cell? ⟨w2.heap.size, 1, none⟩ = some (.int .i64 0) := cell_of hd4 1
  have y2 : w4.cell? ⟨w2.heap.size, 2, none⟩ = some (.int .i64 0) := cell_of hd4 2
  have y3 : w4.cell? ⟨w2.heap.size, 3, none⟩ = some (.int .i64 0) := cell_of hd4 3
  have y4 : w4.cell? ⟨w2.heap.size, 4, none⟩ = some (.int .i64 0) := cell_of hd4 4
  have y5 : w4.cell? ⟨w2.heap.size, 5, none⟩ = some (.int .i64 0) := cell_of hd4 5
  have y6 : w4.cell? ⟨w2.heap.size, 6, none⟩ = some (.int .i64 0) := cell_of hd4 6
  have y7 : w4.cell? ⟨w2.heap.size, 7, none⟩ = some (.int .i64 0) := cell_of hd4 7
  clear hc4 hd4 hw4 hb4
  go_wp2_with fail
  refine (bytes_ok Sha.St.zero zero_ok (H.out.below (HW4.out.mono H.out.size))).mono ?_
  rintro e w5 ⟨rfl, hb5⟩
  have hc5 := (hb5.block _ (lt_of_heap HC4.out)).trans HC4.out
  have hd5 := (hb5.block _ (lt_of_heap HD4.out)).trans HD4.out
  have hw5 : Below w.heap.size w w5 := HW4.out.trans (hb5.mono HW4.out.size)
  have HW5 := Lib.hid hw5
  clear y0 y1 y2 y3 y4 y5 y6 y7
  have y0 : w5.cell? ⟨w.heap.size, 0, none⟩ = some (.int .i64 s.a) := cell_of hc5 0
  have y1 : w5.cell? ⟨w.heap.size, 1, none⟩ = some (.int .i64 s.b) := cell_of hc5 1
  have y2 : w5.cell? ⟨w.heap.size, 2, none⟩ = some (.int .i64 s.c) := cell_of hc5 2
  have y3 : w5.cell? ⟨w.heap.size, 3, none⟩ = some (.int .i64 s.d) := cell_of hc5 3
  have y4 : w5.cell? ⟨w.heap.size, 4, none⟩ = some (.int .i64 s.e) := cell_of hc5 4
  have y5 : w5.cell? ⟨w.heap.size, 5, none⟩ = some (.int .i64 s.f) := cell_of hc5 5
  have y6 : w5.cell? ⟨w.heap.size, 6, none⟩ = some (.int .i64 s.g) := cell_of hc5 6
  have y7 : w5.cell? ⟨w.heap.size, 7, none⟩ = some (.int .i64 s.h) := cell_of hc5 7
  have x0 : w5.cell? ⟨w2.heap.size, 0, none⟩ = some (.int .i64 0) := cell_of hd5 0
  have x1 : w5.cell? ⟨w2.heap.size, 1, none⟩ = some (.int .i64 0) := cell_of hd5 1
  have x2 : w5.cell? ⟨w2.heap.size, 2, none⟩ = some (.int .i64 0) := cell_of hd5 2
  have x3 : w5.cell? ⟨w2.heap.size, 3, none⟩ = some (.int .i64 0) := cell_of hd5 3
  have x4 : w5.cell? ⟨w2.heap.size, 4, none⟩ = some (.int .i64 0) := cell_of hd5 4
  have x5 : w5.cell? ⟨w2.heap.size, 5, none⟩ = some (.int .i64 0) := cell_of hd5 5
  have x6 : w5.cell? ⟨w2.heap.size, 6, none⟩ = some (.int .i64 0) := cell_of hd5 6
  have x7 : w5.cell? ⟨w2.heap.size, 7, none⟩ = some (.int .i64 0) := cell_of hd5 7
  clear hc5 hd5 hw5 hb5
  go_wp2_with fail
  exact bodyPost_ret (v := .bool true) (by simp [results, Tryd.results5, go_sem]) rfl ⟨rfl, HW5.out⟩
/-- EVERY STATE, EVERY TWO NUMBERS. -/
theorem words_law (s0 s1 s2 s3 s4 s5 s6 s7 i x : Int) {B : Nat} {aw ab : Addr} {w : World} (h : Glob B aw ab w) :
    Calls Tryd.prog 5 #[.agg #[.int .i64 s0, .int .i64 s1, .int .i64 s2, .int .i64 s3, .int .i64 s4, .int .i64 s5, .int .i64 s6, .int .i64 s7], .int .i64 i, .int .i64 x] w fun e w' => e = .returned (.bool true) ∧ Below w.heap.size w w' := by
  by_cases hW : Words8 s0 s1 s2 s3 s4 s5 s6 s7
  · obtain ⟨s, hs, rfl, rfl, rfl, rfl, rfl, rfl, rfl, rfl⟩ := words_st hW
    by_cases c0 : i < 0
    · exact words_num0 s hs i x c0 h
    by_cases c1 : 63 < i
    · exact words_num1 s hs i x (by omega) c1 h
    by_cases c2 : x < 0
    · exact words_num2 s hs i x (by omega) (by omega) c2 h
    by_cases c3 : 4294967295 < x
    · exact words_num3 s hs i x (by omega) (by omega) (by omega) c3 h
    obtain ⟨n, rfl⟩ := Int.eq_ofNat_of_zero_le (show 0 ≤ i by omega)
    obtain ⟨m, rfl⟩ := Int.eq_ofNat_of_zero_le (show 0 ≤ x by omega)
    exact words_ok s hs n m (by omega) (by omega) h
  · exact words_word s0 s1 s2 s3 s4 s5 s6 s7 hW i x h
end Go.Proofs.YtfafidholldjlaaDoor
