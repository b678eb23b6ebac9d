/- The law RoundsBack: what a call of it answers, for every state and every two numbers. -/
import Derived.Test.YtfafidholldjlaaDoorB1
import Derived.Test.YtfafidholldjlaaDoorC1
set_option linter.unusedVariables false
set_option linter.unusedSimpArgs false
namespace Go.Proofs.YtfafidholldjlaaDoor
open Go.RowKit
/-- The word that was given is what two words of the state grow by. -/
theorem back_law_plain (s : Sha.St) (k x : Nat) (hx : x < 4294967296) : (s.round k x).a < 4294967296 ∧ (s.round k x).e < 4294967296 ∧ (s.round k 0).a < 4294967296 ∧ (s.round k 0).e < 4294967296 ∧
    ((s.round k x).a + 4294967296 - (s.round k 0).a) % 4294967296 = x ∧ ((s.round k x).e + 4294967296 - (s.round k 0).e) % 4294967296 = x := by
  simp only [Sha.St.round, Sha.t1, Nat.add_zero]
  generalize s.h + Sha.turned s.e [6, 11, 25] + Sha.ch s.e s.f s.g + k = c
  generalize Sha.t2 s = t
  generalize s.d = d
  refine ⟨Nat.mod_lt _ (by decide), Nat.mod_lt _ (by decide), Nat.mod_lt _ (by decide), Nat.mod_lt _ (by decide), ?_, ?_⟩ <;> omega
set_option maxRecDepth 100000 in
theorem back_word (s0 s1 s2 s3 s4 s5 s6 s7 : Int) (hbad : ¬ Words8 s0 s1 s2 s3 s4 s5 s6 s7) (i x : Int) {B : Nat} {aw ab : Addr} {w : World} (h : Glob B aw ab w) :
    Calls Tryd.prog 6 #[.agg #[.int .i64 s0, .int .i64 s1, .int .i64 s2, .int .i64 s3, .int .i64 s4, .int .i64 s5, .int .i64 s6, .int .i64 s7], .int .i64 i, .int .i64 x] w fun e w' => e = .returned (.bool true) ∧ Below w.heap.size w w' := by
  have H := Lib.hid h
  clear h
  have Hb := Lib.hid hbad
  clear hbad
  go_enter Tryd.func6, Tryd.ntmps6
  go_wp2_with fail
  refine (shown_any (H.out.below ((Below.refl B w).alloc H.out.size _))).mono ?_
  rintro e w1 ⟨rfl, hb1⟩
  have z1 : w.heap.size < w1.heap.size := by have := hb1.size; simp at this; omega
  have hc1 := (hb1.block w.heap.size (by simp)).trans (alloc_heap_at w (.cells #[.int .i64 s0, .int .i64 s1, .int .i64 s2, .int .i64 s3, .int .i64 s4, .int .i64 s5, .int .i64 s6, .int .i64 s7] 23) _ rfl)
  have hw1 : Below w.heap.size w w1 := ((Below.refl _ w).alloc (Nat.le_refl _) _).trans (hb1.mono (by simp))
  have y0 : w1.cell? ⟨w.heap.size, 0, none⟩ = some (.int .i64 s0) := cell_of hc1 0
  have y1 : w1.cell? ⟨w.heap.size, 1, none⟩ = some (.int .i64 s1) := cell_of hc1 1
  have y2 : w1.cell? ⟨w.heap.size, 2, none⟩ = some (.int .i64 s2) := cell_of hc1 2
  have y3 : w1.cell? ⟨w.heap.size, 3, none⟩ = some (.int .i64 s3) := cell_of hc1 3
  have y4 : w1.cell? ⟨w.heap.size, 4, none⟩ = some (.int .i64 s4) := cell_of hc1 4
  have y5 : w1.cell? ⟨w.heap.size, 5, none⟩ = some (.int .i64 s5) := cell_of hc1 5
  have y6 : w1.cell? ⟨w.heap.size, 6, none⟩ = some (.int .i64 s6) := cell_of hc1 6
  have y7 : w1.cell? ⟨w.heap.size, 7, none⟩ = some (.int .i64 s7) := cell_of hc1 7
  have HC1 := Lib.hid hc1
  have HW1 := Lib.hid hw1
  clear hb1 hc1 hw1
  go_wp2_with fail
  refine (round_word s0 s1 s2 s3 s4 s5 s6 s7 i x Hb.out (H.out.below (HW1.out.mono H.out.size))).mono ?_
  rintro e w2 ⟨rfl, hb2⟩
  have z2 : w.heap.size < w2.heap.size := Nat.lt_of_lt_of_le z1 hb2.size
  have hw2 : Below w.heap.size w w2 := HW1.out.trans (hb2.mono HW1.out.size)
  have hc2 := (hb2.block _ z1).trans HC1.out
  have hd2 := alloc_heap_old (.cells #[.int .i64 0, .int .i64 0, .int .i64 0, .int .i64 0, .int .i64 0, .int .i64 0, .int .i64 0, .int .i64 0] 23) hc2
  have he2 := alloc_heap_at w2 (.cells #[.int .i64 0, .int .i64 0, .int .i64 0, .int .i64 0, .int .i64 0, .int .i64 0, .int .i64 0, .int .i64 0] 23) _ rfl
  have hx2 : Below w.heap.size w (w2.alloc (.cells #[.int .i64 0, .int .i64 0, .int .i64 0, .int .i64 0, .int .i64 0, .int .i64 0, .int .i64 0, .int .i64 0] 23)) := hw2.alloc (by omega) _
  clear y0 y1 y2 y3 y4 y5 y6 y7
  go_upto_region 3 with (fail)
  generalize w2.alloc (.cells #[.int .i64 0, .int .i64 0, .int .i64 0, .int .i64 0, .int .i64 0, .int .i64 0, .int .i64 0, .int .i64 0] 23) = w3 at hd2 he2 hx2 ⊢
  have y0 : w3.cell? ⟨w.heap.size, 0, none⟩ = some (.int .i64 s0) := cell_of hd2 0
  have y1 : w3.cell? ⟨w.heap.size, 1, none⟩ = some (.int .i64 s1) := cell_of hd2 1
  have y2 : w3.cell? ⟨w.heap.size, 2, none⟩ = some (.int .i64 s2) := cell_of hd2 2
  have y3 : w3.cell? ⟨w.heap.size, 3, none⟩ = some (.int .i64 s3) := cell_of hd2 3
  have y4 : w3.cell? ⟨w.heap.size, 4, none⟩ = some (.int .i64 s4) := cell_of hd2 4
  have y5 : w3.cell? ⟨w.heap.size, 5, none⟩ = some (.int .i64 s5) := cell_of hd2 5
  have y6 : w3.cell? ⟨w.heap.size, 6, none⟩ = some (.int .i64 s6) := cell_of hd2 6
  have y7 : w3.cell? ⟨w.heap.size, 7, none⟩ = some (.int .i64 s7) := cell_of hd2 7
  have HD3 := Lib.hid hd2
  have HE3 := Lib.hid he2
  have HW3 := Lib.hid hx2
  clear hd2 he2 hx2 hc2 hw2 hb2
  go_wp2_with fail
  refine (round_word s0 s1 s2 s3 s4 s5 s6 s7 i 0 Hb.out (H.out.below (HW3.out.mono H.out.size))).mono ?_
  rintro e w4 ⟨rfl, hb4⟩
  have hw4 : Below w.heap.size w w4 := HW3.out.trans (hb4.mono HW3.out.size)
  have hd4 := (hb4.block _ (lt_of_heap HE3.out)).trans HE3.out
  have hg4 := alloc_heap_old (.cells #[.int .i64 0, .int .i64 0, .int .i64 0, .int .i64 0, .int .i64 0, .int .i64 0, .int .i64 0, .int .i64 0] 23) hd4
  have he4 := alloc_heap_at w4 (.cells #[.int .i64 0, .int .i64 0, .int .i64 0, .int .i64 0, .int .i64 0, .int .i64 0, .int .i64 0, .int .i64 0] 23) _ rfl
  have hx4 : Below w.heap.size w (w4.alloc (.cells #[.int .i64 0, .int .i64 0, .int .i64 0, .int .i64 0, .int .i64 0, .int .i64 0, .int .i64 0, .int .i64 0] 23)) := hw4.alloc hw4.size _
  clear y0 y1 y2 y3 y4 y5 y6 y7
  go_upto_region 4 with (fail)
  generalize w4.alloc (.cells #[.int .i64 0, .int .i64 0, .int .i64 0, .int .i64 0, .int .i64 0, .int .i64 0, .int .i64 0, .int .i64 0] 23) = w5 at hg4 he4 hx4 ⊢
  have y0 : w5.cell? ⟨w2.heap.size, 0, none⟩ = some (.int .i64 0) := cell_of hg4 0
  have y4 : w5.cell? ⟨w2.heap.size, 4, none⟩ = some (.int .i64 0) := cell_of hg4 4
  have x0 : w5.cell? ⟨w4.heap.size, 0, none⟩ = some (.int .i64 0) := cell_of he4 0
  have x4 : w5.cell? ⟨w4.heap.size, 4, none⟩ = some (.int .i64 0) := cell_of he4 4
  have HW5 := Lib.hid hx4
  clear hg4 he4 hx4 hd4 hw4 hb4
  go_wp2_with fail
  exact bodyPost_ret (v := .bool true) (by simp [results, Tryd.results6, go_sem]) rfl ⟨rfl, HW5.out⟩
set_option maxRecDepth 100000 in
theorem back_num (s : Sha.St) (hs : s.ok) (i x : Int) (hbad : ¬ (0 ≤ i ∧ i < 64)) {B : Nat} {aw ab : Addr} {w : World} (h : Glob B aw ab w) :
    Calls Tryd.prog 6 #[.agg #[.int .i64 s.a, .int .i64 s.b, .int .i64 s.c, .int .i64 s.d, .int .i64 s.e, .int .i64 s.f, .int .i64 s.g, .int .i64 s.h], .int .i64 i, .int .i64 x] w fun e w' => e = .returned (.bool true) ∧ Below w.heap.size w w' := by
  have H := Lib.hid h
  clear h
  have Hb := Lib.hid hbad
  have Hs := Lib.hid hs
  clear hbad hs
  go_enter Tryd.func6, Tryd.ntmps6
  go_wp2_with fail
  refine (shown_any (H.out.below ((Below.refl B w).alloc H.out.size _))).mono ?_
  rintro e w1 ⟨rfl, hb1⟩
  have z1 : w.heap.size < w1.heap.size := by have := hb1.size; simp at this; omega
  have hc1 := (hb1.block w.heap.size (by simp)).trans (alloc_heap_at w (.cells #[.int .i64 s.a, .int .i64 s.b, .int .i64 s.c, .int .i64 s.d, .int .i64 s.e, .int .i64 s.f, .int .i64 s.g, .int .i64 s.h] 23) _ rfl)
  have hw1 : Below w.heap.size w w1 := ((Below.refl _ w).alloc (Nat.le_refl _) _).trans (hb1.mono (by simp))
  have y0 : w1.cell? ⟨w.heap.size, 0, none⟩ = some (.int .i64 s.a) := cell_of hc1 0
  have y1 : w1.cell? ⟨w.heap.size, 1, none⟩ = some (.int .i64 s.b) := cell_of hc1 1
  have y2 : w1.cell? ⟨w.heap.size, 2, none⟩ = some (.int .i64 s.c) := cell_of hc1 2
  have y3 : w1.cell? ⟨w.heap.size, 3, none⟩ = some (.int .i64 s.d) := cell_of hc1 3
  have y4 : w1.cell? ⟨w.heap.size, 4, none⟩ = some (.int .i64 s.e) := cell_of hc1 4
  have y5 : w1.cell? ⟨w.heap.size, 5, none⟩ = some (.int .i64 s.f) := cell_of hc1 5
  have y6 : w1.cell? ⟨w.heap.size, 6, none⟩ = some (.int .i64 s.g) := cell_of hc1 6
  have y7 : w1.cell? ⟨w.heap.size, 7, none⟩ = some (.int .i64 s.h) := cell_of hc1 7
  have HC1 := Lib.hid hc1
  have HW1 := Lib.hid hw1
  clear hb1 hc1 hw1
  go_wp2_with fail
  refine (round_num s Hs.out i x (fun e => Hb.out ⟨e.1, e.2.1⟩) (H.out.below (HW1.out.mono H.out.size))).mono ?_
  rintro e w2 ⟨rfl, hb2⟩
  have z2 : w.heap.size < w2.heap.size := Nat.lt_of_lt_of_le z1 hb2.size
  have hw2 : Below w.heap.size w w2 := HW1.out.trans (hb2.mono HW1.out.size)
  have hc2 := (hb2.block _ z1).trans HC1.out
  have hd2 := alloc_heap_old (.cells #[.int .i64 0, .int .i64 0, .int .i64 0, .int .i64 0, .int .i64 0, .int .i64 0, .int .i64 0, .int .i64 0] 23) hc2
  have he2 := alloc_heap_at w2 (.cells #[.int .i64 0, .int .i64 0, .int .i64 0, .int .i64 0, .int .i64 0, .int .i64 0, .int .i64 0, .int .i64 0] 23) _ rfl
  have hx2 : Below w.heap.size w (w2.alloc (.cells #[.int .i64 0, .int .i64 0, .int .i64 0, .int .i64 0, .int .i64 0, .int .i64 0, .int .i64 0, .int .i64 0] 23)) := hw2.alloc (by omega) _
  clear y0 y1 y2 y3 y4 y5 y6 y7
  go_upto_region 3 with (fail)
  generalize w2.alloc (.cells #[.int .i64 0, .int .i64 0, .int .i64 0, .int .i64 0, .int .i64 0, .int .i64 0, .int .i64 0, .int .i64 0] 23) = w3 at hd2 he2 hx2 ⊢
  have y0 : w3.cell? ⟨w.heap.size, 0, none⟩ = some (.int .i64 s.a) := cell_of hd2 0
  have y1 : w3.cell? ⟨w.heap.size, 1, none⟩ = some (.int .i64 s.b) := cell_of hd2 1
  have y2 : w3.cell? ⟨w.heap.size, 2, none⟩ = some (.int .i64 s.c) := cell_of hd2 2
  have y3 : w3.cell? ⟨w.heap.size, 3, none⟩ = some (.int .i64 s.d) := cell_of hd2 3
  have y4 : w3.cell? ⟨w.heap.size, 4, none⟩ = some (.int .i64 s.e) := cell_of hd2 4
  have y5 : w3.cell? ⟨w.heap.size, 5, none⟩ = some (.int .i64 s.f) := cell_of hd2 5
  have y6 : w3.cell? ⟨w.heap.size, 6, none⟩ = some (.int .i64 s.g) := cell_of hd2 6
  have y7 : w3.cell? ⟨w.heap.size, 7, none⟩ = some (.int .i64 s.h) := cell_of hd2 7
  have HD3 := Lib.hid hd2
  have HE3 := Lib.hid he2
  have HW3 := Lib.hid hx2
  clear hd2 he2 hx2 hc2 hw2 hb2
  go_wp2_with fail
  refine (round_num s Hs.out i 0 (fun e => Hb.out ⟨e.1, e.2.1⟩) (H.out.below (HW3.out.mono H.out.size))).mono ?_
  rintro e w4 ⟨rfl, hb4⟩
  have hw4 : Below w.heap.size w w4 := HW3.out.trans (hb4.mono HW3.out.size)
  have hd4 := (hb4.block _ (lt_of_heap HE3.out)).trans HE3.out
  have hg4 := alloc_heap_old (.cells #[.int .i64 0, .int .i64 0, .int .i64 0, .int .i64 0, .int .i64 0, .int .i64 0, .int .i64 0, .int .i64 0] 23) hd4
  have he4 := alloc_heap_at w4 (.cells #[.int .i64 0, .int .i64 0, .int .i64 0, .int .i64 0, .int .i64 0, .int .i64 0, .int .i64 0, .int .i64 0] 23) _ rfl
  have hx4 : Below w.heap.size w (w4.alloc (.cells #[.int .i64 0, .int .i64 0, .int .i64 0, .int .i64 0, .int .i64 0, .int .i64 0, .int .i64 0, .int .i64 0] 23)) := hw4.alloc hw4.size _
  clear y0 y1 y2 y3 y4 y5 y6 y7
  go_upto_region 4 with (fail)
  generalize w4.alloc (.cells #[.int .i64 0, .int .i64 0, .int .i64 0, .int .i64 0, .int .i64 0, .int .i64 0, .int .i64 0, .int .i64 0] 23) = w5 at hg4 he4 hx4 ⊢
  have y0 : w5.cell? ⟨w2.heap.size, 0, none⟩ = some (.int .i64 0) := cell_of hg4 0
  have y4 : w5.cell? ⟨w2.heap.size, 4, none⟩ = some (.int .i64 0) := cell_of hg4 4
  have x0 : w5.cell? ⟨w4.heap.size, 0, none⟩ = some (.int .i64 0) := cell_of he4 0
  have x4 : w5.cell? ⟨w4.heap.size, 4, none⟩ = some (.int .i64 0) := cell_of he4 4
  have HW5 := Lib.hid hx4
  clear hg4 he4 hx4 hd4 hw4 hb4
  go_wp2_with fail
  exact bodyPost_ret (v := .bool true) (by simp [results, Tryd.results6, go_sem]) rfl ⟨rfl, HW5.out⟩
set_option maxRecDepth 100000 in
theorem back_half (s : Sha.St) (hs : s.ok) (i : Nat) (hi : i < 64) (x : Int) (hbad : ¬ (0 ≤ x ∧ x ≤ 4294967295)) {B : Nat} {aw ab : Addr} {w : World} (h : Glob B aw ab w) :
    Calls Tryd.prog 6 #[.agg #[.int .i64 s.a, .int .i64 s.b, .int .i64 s.c, .int .i64 s.d, .int .i64 s.e, .int .i64 s.f, .int .i64 s.g, .int .i64 s.h], .int .i64 (i : Int), .int .i64 x] w fun e w' => e = .returned (.bool true) ∧ Below w.heap.size w w' := by
  have H := Lib.hid h
  clear h
  have Hb := Lib.hid hbad
  have Hs := Lib.hid hs
  have Hi := Lib.hid hi
  clear hbad hs hi
  obtain ⟨U, hU⟩ : ∃ U, s.round (Sha.K.getD i 0) 0 = U := ⟨_, rfl⟩
  have HU := Lib.hid hU
  clear hU
  go_enter Tryd.func6, Tryd.ntmps6
  go_wp2_with fail
  refine (shown_any (H.out.below ((Below.refl B w).alloc H.out.size _))).mono ?_
  rintro e w1 ⟨rfl, hb1⟩
  have z1 : w.heap.size < w1.heap.size := by have := hb1.size; simp at this; omega
  have hc1 := (hb1.block w.heap.size (by simp)).trans (alloc_heap_at w (.cells #[.int .i64 s.a, .int .i64 s.b, .int .i64 s.c, .int .i64 s.d, .int .i64 s.e, .int .i64 s.f, .int .i64 s.g, .int .i64 s.h] 23) _ rfl)
  have hw1 : Below w.heap.size w w1 := ((Below.refl _ w).alloc (Nat.le_refl _) _).trans (hb1.mono (by simp))
  have y0 : w1.cell? ⟨w.heap.size, 0, none⟩ = some (.int .i64 s.a) := cell_of hc1 0
  have y1 : w1.cell? ⟨w.heap.size, 1, none⟩ = some (.int .i64 s.b) := cell_of hc1 1
  have y2 : w1.cell? ⟨w.heap.size, 2, none⟩ = some (.int .i64 s.c) := cell_of hc1 2
  have y3 : w1.cell? ⟨w.heap.size, 3, none⟩ = some (.int .i64 s.d) := cell_of hc1 3
  have y4 : w1.cell? ⟨w.heap.size, 4, none⟩ = some (.int .i64 s.e) := cell_of hc1 4
  have y5 : w1.cell? ⟨w.heap.size, 5, none⟩ = some (.int .i64 s.f) := cell_of hc1 5
  have y6 : w1.cell? ⟨w.heap.size, 6, none⟩ = some (.int .i64 s.g) := cell_of hc1 6
  have y7 : w1.cell? ⟨w.heap.size, 7, none⟩ = some (.int .i64 s.h) := cell_of hc1 7
  have HC1 := Lib.hid hc1
  have HW1 := Lib.hid hw1
  clear hb1 hc1 hw1
  go_wp2_with fail
  refine (round_num s Hs.out i x (fun e => Hb.out ⟨e.2.2.1, e.2.2.2⟩) (H.out.below (HW1.out.mono H.out.size))).mono ?_
  rintro e w2 ⟨rfl, hb2⟩
  have z2 : w.heap.size < w2.heap.size := Nat.lt_of_lt_of_le z1 hb2.size
  have hw2 : Below w.heap.size w w2 := HW1.out.trans (hb2.mono HW1.out.size)
  have hc2 := (hb2.block _ z1).trans HC1.out
  have hd2 := alloc_heap_old (.cells #[.int .i64 0, .int .i64 0, .int .i64 0, .int .i64 0, .int .i64 0, .int .i64 0, .int .i64 0, .int .i64 0] 23) hc2
  have he2 := alloc_heap_at w2 (.cells #[.int .i64 0, .int .i64 0, .int .i64 0, .int .i64 0, .int .i64 0, .int .i64 0, .int .i64 0, .int .i64 0] 23) _ rfl
  have hx2 : Below w.heap.size w (w2.alloc (.cells #[.int .i64 0, .int .i64 0, .int .i64 0, .int .i64 0, .int .i64 0, .int .i64 0, .int .i64 0, .int .i64 0] 23)) := hw2.alloc (by omega) _
  clear y0 y1 y2 y3 y4 y5 y6 y7
  go_upto_region 3 with (fail)
  generalize w2.alloc (.cells #[.int .i64 0, .int .i64 0, .int .i64 0, .int .i64 0, .int .i64 0, .int .i64 0, .int .i64 0, .int .i64 0] 23) = w3 at hd2 he2 hx2 ⊢
  have y0 : w3.cell? ⟨w.heap.size, 0, none⟩ = some (.int .i64 s.a) := cell_of hd2 0
  have y1 : w3.cell? ⟨w.heap.size, 1, none⟩ = some (.int .i64 s.b) := cell_of hd2 1
  have y2 : w3.cell? ⟨w.heap.size, 2, none⟩ = some (.int .i64 s.c) := cell_of hd2 2
  have y3 : w3.cell? ⟨w.heap.size, 3, none⟩ = some (.int .i64 s.d) := cell_of hd2 3
  have y4 : w3.cell? ⟨w.heap.size, 4, none⟩ = some (.int .i64 s.e) := cell_of hd2 4
  have y5 : w3.cell? ⟨w.heap.size, 5, none⟩ = some (.int .i64 s.f) := cell_of hd2 5
  have y6 : w3.cell? ⟨w.heap.size, 6, none⟩ = some (.int .i64 s.g) := cell_of hd2 6
  have y7 : w3.cell? ⟨w.heap.size, 7, none⟩ = some (.int .i64 s.h) := cell_of hd2 7
  have HD3 := Lib.hid hd2
  have HE3 := Lib.hid he2
  have HW3 := Lib.hid hx2
  clear hd2 he2 hx2 hc2 hw2 hb2
  go_wp2_with fail
  refine (round_ok s Hs.out i 0 Hi.out (by decide) (H.out.below (HW3.out.mono H.out.size))).mono ?_
  rw [HU.out]
  unfold row64
  rintro e w4 ⟨rfl, hb4⟩
  have hw4 : Below w.heap.size w w4 := HW3.out.trans (hb4.mono HW3.out.size)
  have hd4 := (hb4.block _ (lt_of_heap HE3.out)).trans HE3.out
  have hg4 := alloc_heap_old (.cells #[.int .i64 U.a, .int .i64 U.b, .int .i64 U.c, .int .i64 U.d, .int .i64 U.e, .int .i64 U.f, .int .i64 U.g, .int .i64 U.h] 23) hd4
  have he4 := alloc_heap_at w4 (.cells #[.int .i64 U.a, .int .i64 U.b, .int .i64 U.c, .int .i64 U.d, .int .i64 U.e, .int .i64 U.f, .int .i64 U.g, .int .i64 U.h] 23) _ rfl
  have hx4 : Below w.heap.size w (w4.alloc (.cells #[.int .i64 U.a, .int .i64 U.b, .int .i64 U.c, .int .i64 U.d, .int .i64 U.e, .int .i64 U.f, .int .i64 U.g, .int .i64 U.h] 23)) := hw4.alloc hw4.size _
  clear y0 y1 y2 y3 y4 y5 y6 y7
  go_upto_region 4 with (fail)
  generalize w4.alloc (.cells #[.int .i64 U.a, .int .i64 U.b, .int .i64 U.c, .int .i64 U.d, .int .i64 U.e, .int .i64 U.f, .int .i64 U.g, .int .i64 U.h] 23) = w5 at hg4 he4 hx4 ⊢
  have y0 : w5.cell? ⟨w2.heap.size, 0, none⟩ = some (.int .i64 0) := cell_of hg4 0
  have y4 : w5.cell? ⟨w2.heap.size, 4, none⟩ = some (.int .i64 0) := cell_of hg4 4
  have x0 : w5.cell? ⟨w4.heap.size, 0, none⟩ = some (.int .i64 U.a) := cell_of he4 0
  have x4 : w5.cell? ⟨w4.heap.size, 4, none⟩ = some (.int .i64 U.e) := cell_of he4 4
  have HW5 := Lib.hid hx4
  clear hg4 he4 hx4 hd4 hw4 hb4
  go_wp2_with fail
  exact bodyPost_ret (v := .bool true) (by simp [results, Tryd.results6, go_sem]) rfl ⟨rfl, HW5.out⟩
set_option maxRecDepth 100000 in
theorem back_ok (s : Sha.St) (hs : s.ok) (i x : Nat) (hi : i < 64) (hx : x < 4294967296) {B : Nat} {aw ab : Addr} {w : World} (h : Glob B aw ab w) :
    Calls Tryd.prog 6 #[.agg #[.int .i64 s.a, .int .i64 s.b, .int .i64 s.c, .int .i64 s.d, .int .i64 s.e, .int .i64 s.f, .int .i64 s.g, .int .i64 s.h], .int .i64 (i : Int), .int .i64 (x : Int)] w fun e w' => e = .returned (.bool true) ∧ Below w.heap.size w w' := by
  have H := Lib.hid h
  clear h
  have Hs := Lib.hid hs
  have Hi := Lib.hid hi
  have Hx := Lib.hid hx
  clear hs hi hx
  obtain ⟨T, hT⟩ : ∃ T, s.round (Sha.K.getD i 0) x = T := ⟨_, rfl⟩
  obtain ⟨U, hU⟩ : ∃ U, s.round (Sha.K.getD i 0) 0 = U := ⟨_, rfl⟩
  have HT := Lib.hid hT
  have HU := Lib.hid hU
  clear hT hU
  go_enter Tryd.func6, Tryd.ntmps6
  go_wp2_with fail
  refine (shown_any (H.out.below ((Below.refl B w).alloc H.out.size _))).mono ?_
  rintro e w1 ⟨rfl, hb1⟩
  have z1 : w.heap.size < w1.heap.size := by have := hb1.size; simp at this; omega
  have hc1 := (hb1.block w.heap.size (by simp)).trans (alloc_heap_at w (.cells #[.int .i64 s.a, .int .i64 s.b, .int .i64 s.c, .int .i64 s.d, .int .i64 s.e, .int .i64 s.f, .int .i64 s.g, .int .i64 s.h] 23) _ rfl)
  have hw1 : Below w.heap.size w w1 := ((Below.refl _ w).alloc (Nat.le_refl _) _).trans (hb1.mono (by simp))
  have y0 : w1.cell? ⟨w.heap.size, 0, none⟩ = some (.int .i64 s.a) := cell_of hc1 0
  have y1 : w1.cell? ⟨w.heap.size, 1, none⟩ = some (.int .i64 s.b) := cell_of hc1 1
  have y2 : w1.cell? ⟨w.heap.size, 2, none⟩ = some (.int .i64 s.c) := cell_of hc1 2
  have y3 : w1.cell? ⟨w.heap.size, 3, none⟩ = some (.int .i64 s.d) := cell_of hc1 3
  have y4 : w1.cell? ⟨w.heap.size, 4, none⟩ = some (.int .i64 s.e) := cell_of hc1 4
  have y5 : w1.cell? ⟨w.heap.size, 5, none⟩ = some (.int .i64 s.f) := cell_of hc1 5
  have y6 : w1.cell? ⟨w.heap.size, 6, none⟩ = some (.int .i64 s.g) := cell_of hc1 6
  have y7 : w1.cell? ⟨w.heap.size, 7, none⟩ = some (.int .i64 s.h) := cell_of hc1 7
  have HC1 := Lib.hid hc1
  have HW1 := Lib.hid hw1
  clear hb1 hc1 hw1
  go_wp2_with fail
  refine (round_ok s Hs.out i x Hi.out Hx.out (H.out.below (HW1.out.mono H.out.size))).mono ?_
  rw [HT.out]
  unfold row64
  rintro e w2 ⟨rfl, hb2⟩
  have z2 : w.heap.size < w2.heap.size := Nat.lt_of_lt_of_le z1 hb2.size
  have hw2 : Below w.heap.size w w2 := HW1.out.trans (hb2.mono HW1.out.size)
  have hc2 := (hb2.block _ z1).trans HC1.out
  have hd2 := alloc_heap_old (.cells #[.int .i64 T.a, .int .i64 T.b, .int .i64 T.c, .int .i64 T.d, .int .i64 T.e, .int .i64 T.f, .int .i64 T.g, .int .i64 T.h] 23) hc2
  have he2 := alloc_heap_at w2 (.cells #[.int .i64 T.a, .int .i64 T.b, .int .i64 T.c, .int .i64 T.d, .int .i64 T.e, .int .i64 T.f, .int .i64 T.g, .int .i64 T.h] 23) _ rfl
  have hx2 : Below w.heap.size w (w2.alloc (.cells #[.int .i64 T.a, .int .i64 T.b, .int .i64 T.c, .int .i64 T.d, .int .i64 T.e, .int .i64 T.f, .int .i64 T.g, .int .i64 T.h] 23)) := hw2.alloc (by omega) _
  clear y0 y1 y2 y3 y4 y5 y6 y7
  go_upto_region 3 with (fail)
  generalize w2.alloc (.cells #[.int .i64 T.a, .int .i64 T.b, .int .i64 T.c, .int .i64 T.d, .int .i64 T.e, .int .i64 T.f, .int .i64 T.g, .int .i64 T.h] 23) = w3 at hd2 he2 hx2 ⊢
  have y0 : w3.cell? ⟨w.heap.size, 0, none⟩ = some (.int .i64 s.a) := cell_of hd2 0
  have y1 : w3.cell? ⟨w.heap.size, 1, none⟩ = some (.int .i64 s.b) := cell_of hd2 1
  have y2 : w3.cell? ⟨w.heap.size, 2, none⟩ = some (.int .i64 s.c) := cell_of hd2 2
  have y3 : w3.cell? ⟨w.heap.size, 3, none⟩ = some (.int .i64 s.d) := cell_of hd2 3
  have y4 : w3.cell? ⟨w.heap.size, 4, none⟩ = some (.int .i64 s.e) := cell_of hd2 4
  have y5 : w3.cell? ⟨w.heap.size, 5, none⟩ = some (.int .i64 s.f) := cell_of hd2 5
  have y6 : w3.cell? ⟨w.heap.size, 6, none⟩ = some (.int .i64 s.g) := cell_of hd2 6
  have y7 : w3.cell? ⟨w.heap.size, 7, none⟩ = some (.int .i64 s.h) := cell_of hd2 7
  have HD3 := Lib.hid hd2
  have HE3 := Lib.hid he2
  have HW3 := Lib.hid hx2
  clear hd2 he2 hx2 hc2 hw2 hb2
  go_wp2_with fail
  refine (round_ok s Hs.out i 0 Hi.out (by decide) (H.out.below (HW3.out.mono H.out.size))).mono ?_
  rw [HU.out]
  unfold row64
  rintro e w4 ⟨rfl, hb4⟩
  have hw4 : Below w.heap.size w w4 := HW3.out.trans (hb4.mono HW3.out.size)
  have hd4 := (hb4.block _ (lt_of_heap HE3.out)).trans HE3.out
  have hg4 := alloc_heap_old (.cells #[.int .i64 U.a, .int .i64 U.b, .int .i64 U.c, .int .i64 U.d, .int .i64 U.e, .int .i64 U.f, .int .i64 U.g, .int .i64 U.h] 23) hd4
  have he4 := alloc_heap_at w4 (.cells #[.int .i64 U.a, .int .i64 U.b, .int .i64 U.c, .int .i64 U.d, .int .i64 U.e, .int .i64 U.f, .int .i64 U.g, .int .i64 U.h] 23) _ rfl
  have hx4 : Below w.heap.size w (w4.alloc (.cells #[.int .i64 U.a, .int .i64 U.b, .int .i64 U.c, .int .i64 U.d, .int .i64 U.e, .int .i64 U.f, .int .i64 U.g, .int .i64 U.h] 23)) := hw4.alloc hw4.size _
  clear y0 y1 y2 y3 y4 y5 y6 y7
  go_upto_region 4 with (fail)
  generalize w4.alloc (.cells #[.int .i64 U.a, .int .i64 U.b, .int .i64 U.c, .int .i64 U.d, .int .i64 U.e, .int .i64 U.f, .int .i64 U.g, .int .i64 U.h] 23) = w5 at hg4 he4 hx4 ⊢
  have y0 : w5.cell? ⟨w2.heap.size, 0, none⟩ = some (.int .i64 T.a) := cell_of hg4 0
  have y4 : w5.cell? ⟨w2.heap.size, 4, none⟩ = some (.int .i64 T.e) := cell_of hg4 4
  have x0 : w5.cell? ⟨w4.heap.size, 0, none⟩ = some (.int .i64 U.a) := cell_of he4 0
  have x4 : w5.cell? ⟨w4.heap.size, 4, none⟩ = some (.int .i64 U.e) := cell_of he4 4
  have HW5 := Lib.hid hx4
  clear hg4 he4 hx4 hd4 hw4 hb4
  obtain ⟨ta, tb, ua, ub, m0, m4⟩ := back_law_plain s (Sha.K.getD i 0) x Hx.out
  rw [HT.out] at ta tb m0 m4
  rw [HU.out] at ua ub m0 m4
  go_wp2_with fail
  have he : ((T.e : Int) - (U.e : Int)) % 4294967296 = (x : Int) := by omega
  have hb4 : (((T.e : Int) - (U.e : Int)) % 4294967296 == (x : Int)) = true := by rw [he]; simp
  rw [hb4]
  exact bodyPost_ret (v := .bool true) (by simp [results, Tryd.results6, go_sem]) rfl ⟨rfl, HW5.out⟩
/-- EVERY STATE, EVERY TWO NUMBERS. -/
theorem back_law (s0 s1 s2 s3 s4 s5 s6 s7 i x : Int) {B : Nat} {aw ab : Addr} {w : World} (h : Glob B aw ab w) :
    Calls Tryd.prog 6 #[.agg #[.int .i64 s0, .int .i64 s1, .int .i64 s2, .int .i64 s3, .int .i64 s4, .int .i64 s5, .int .i64 s6, .int .i64 s7], .int .i64 i, .int .i64 x] w fun e w' => e = .returned (.bool true) ∧ Below w.heap.size w w' := by
  by_cases hW : Words8 s0 s1 s2 s3 s4 s5 s6 s7
  · obtain ⟨s, hs, rfl, rfl, rfl, rfl, rfl, rfl, rfl, rfl⟩ := words_st hW
    by_cases c0 : 0 ≤ i ∧ i < 64
    · obtain ⟨n, rfl⟩ := Int.eq_ofNat_of_zero_le c0.1
      by_cases c2 : 0 ≤ x ∧ x ≤ 4294967295
      · obtain ⟨m, rfl⟩ := Int.eq_ofNat_of_zero_le c2.1
        exact back_ok s hs n m (by omega) (by omega) h
      · exact back_half s hs n (by omega) x c2 h
    · exact back_num s hs i x c0 h
  · exact back_word s0 s1 s2 s3 s4 s5 s6 s7 hW i x h
end Go.Proofs.YtfafidholldjlaaDoor
