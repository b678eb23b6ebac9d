/- Round, on a state of words. -/
import Derived.Test.YtfafidholldjlaaDoorA11
set_option linter.unusedVariables false
set_option linter.unusedSimpArgs false
namespace Go.Proofs.YtfafidholldjlaaDoor
open Go.RowKit
set_option maxRecDepth 100000 in
set_option maxHeartbeats 1000000 in
theorem round_num_a (s : Sha.St) (hs : s.ok) (i x : Int) (c1 : i < 0) {B : Nat} {aw ab : Addr} {w : World} (h : Glob B aw ab w) :
    Calls Tryd.prog 27 #[.agg #[.int .i64 s.a, .int .i64 s.b, .int .i64 s.c, .int .i64 s.d, .int .i64 s.e, .int .i64 s.f, .int .i64 s.g, .int .i64 s.h], .int .i64 i, .int .i64 x] w fun e w' => e = .returned (.tuple #[.agg #[.int .i64 0, .int .i64 0, .int .i64 0, .int .i64 0, .int .i64 0, .int .i64 0, .int .i64 0, .int .i64 0], .int .i64 11]) ∧ Below w.heap.size w w' := by
  have H := Lib.hid h
  have Hs := Lib.hid hs
  clear h hs
  go_enter Tryd.func27, Tryd.ntmps27
  go_wp2_with fail
  refine (of_any s Hs.out _).mono ?_
  rintro e w1 ⟨rfl, hb1⟩
  simp only [World.size_alloc] at hb1
  have z1 : w.heap.size + 1 < w1.heap.size := by have := hb1.size; simp at this; omega
  have hrc : w1.heap[w.heap.size + 1]? = some (.cells #[.int .i64 0, .int .i64 0, .int .i64 0, .int .i64 0, .int .i64 0, .int .i64 0, .int .i64 0, .int .i64 0] 23 (0, 0)) := (hb1.block _ (by omega)).trans (alloc_heap_at _ _ _ (by simp))
  have hw1 : Below w.heap.size w w1 := (((Below.refl _ w).alloc (Nat.le_refl _) _).alloc (by simp) _).trans (hb1.mono (by omega))
  have y0 : w1.cell? ⟨w.heap.size + 1, 0, none⟩ = some (.int .i64 0) := cell_of hrc 0
  have f0 : w1.frozen? ⟨w.heap.size + 1, 0, none⟩ = false := frozen_of hrc 0
  have y1 : w1.cell? ⟨w.heap.size + 1, 1, none⟩ = some (.int .i64 0) := cell_of hrc 1
  have f1 : w1.frozen? ⟨w.heap.size + 1, 1, none⟩ = false := frozen_of hrc 1
  have y2 : w1.cell? ⟨w.heap.size + 1, 2, none⟩ = some (.int .i64 0) := cell_of hrc 2
  have f2 : w1.frozen? ⟨w.heap.size + 1, 2, none⟩ = false := frozen_of hrc 2
  have y3 : w1.cell? ⟨w.heap.size + 1, 3, none⟩ = some (.int .i64 0) := cell_of hrc 3
  have f3 : w1.frozen? ⟨w.heap.size + 1, 3, none⟩ = false := frozen_of hrc 3
  have y4 : w1.cell? ⟨w.heap.size + 1, 4, none⟩ = some (.int .i64 0) := cell_of hrc 4
  have f4 : w1.frozen? ⟨w.heap.size + 1, 4, none⟩ = false := frozen_of hrc 4
  have y5 : w1.cell? ⟨w.heap.size + 1, 5, none⟩ = some (.int .i64 0) := cell_of hrc 5
  have f5 : w1.frozen? ⟨w.heap.size + 1, 5, none⟩ = false := frozen_of hrc 5
  have y6 : w1.cell? ⟨w.heap.size + 1, 6, none⟩ = some (.int .i64 0) := cell_of hrc 6
  have f6 : w1.frozen? ⟨w.heap.size + 1, 6, none⟩ = false := frozen_of hrc 6
  have y7 : w1.cell? ⟨w.heap.size + 1, 7, none⟩ = some (.int .i64 0) := cell_of hrc 7
  have f7 : w1.frozen? ⟨w.heap.size + 1, 7, none⟩ = false := frozen_of hrc 7
  have HRC := Lib.hid hrc
  clear hrc hb1
  have hg := (H.out.below (hw1.mono H.out.size)).word
  have h0 : 0 < w1.heap.size := by omega
  go_wp2_with fail
  refine (told_word (H.out.below ((hw1.mono H.out.size).alloc (by have := H.out.size; omega) _))).mono ?_
  rintro e w' ⟨rfl, rfl⟩
  go_wp2_with fail
  have hX := store8 w1 (w.heap.size + 1) 23 _ _ _ _ _ _ _ _ (.int .i64 0) (.int .i64 0) (.int .i64 0) (.int .i64 0) (.int .i64 0) (.int .i64 0) (.int .i64 0) (.int .i64 0) HRC.out
  have hXb := below8 w1 (w.heap.size + 1) (.int .i64 0) (.int .i64 0) (.int .i64 0) (.int .i64 0) (.int .i64 0) (.int .i64 0) (.int .i64 0) (.int .i64 0) hw1 (by omega)
  exact bodyPost_ret (results27 _ _ (w.heap.size + 1) _ _ _ _ _ _ _ _ _ rfl rfl (alloc_heap_old _ hX)) rfl ⟨rfl, hXb.alloc hXb.size _⟩
set_option maxRecDepth 100000 in
set_option maxHeartbeats 1000000 in
theorem round_num_b (s : Sha.St) (hs : s.ok) (i x : Int) (c0 : 0 ≤ i) (c1 : 64 ≤ i) {B : Nat} {aw ab : Addr} {w : World} (h : Glob B aw ab w) :
    Calls Tryd.prog 27 #[.agg #[.int .i64 s.a, .int .i64 s.b, .int .i64 s.c, .int .i64 s.d, .int .i64 s.e, .int .i64 s.f, .int .i64 s.g, .int .i64 s.h], .int .i64 i, .int .i64 x] w fun e w' => e = .returned (.tuple #[.agg #[.int .i64 0, .int .i64 0, .int .i64 0, .int .i64 0, .int .i64 0, .int .i64 0, .int .i64 0, .int .i64 0], .int .i64 11]) ∧ Below w.heap.size w w' := by
  have H := Lib.hid h
  have Hs := Lib.hid hs
  clear h hs
  go_enter Tryd.func27, Tryd.ntmps27
  go_wp2_with fail
  refine (of_any s Hs.out _).mono ?_
  rintro e w1 ⟨rfl, hb1⟩
  simp only [World.size_alloc] at hb1
  have z1 : w.heap.size + 1 < w1.heap.size := by have := hb1.size; simp at this; omega
  have hrc : w1.heap[w.heap.size + 1]? = some (.cells #[.int .i64 0, .int .i64 0, .int .i64 0, .int .i64 0, .int .i64 0, .int .i64 0, .int .i64 0, .int .i64 0] 23 (0, 0)) := (hb1.block _ (by omega)).trans (alloc_heap_at _ _ _ (by simp))
  have hw1 : Below w.heap.size w w1 := (((Below.refl _ w).alloc (Nat.le_refl _) _).alloc (by simp) _).trans (hb1.mono (by omega))
  have y0 : w1.cell? ⟨w.heap.size + 1, 0, none⟩ = some (.int .i64 0) := cell_of hrc 0
  have f0 : w1.frozen? ⟨w.heap.size + 1, 0, none⟩ = false := frozen_of hrc 0
  have y1 : w1.cell? ⟨w.heap.size + 1, 1, none⟩ = some (.int .i64 0) := cell_of hrc 1
  have f1 : w1.frozen? ⟨w.heap.size + 1, 1, none⟩ = false := frozen_of hrc 1
  have y2 : w1.cell? ⟨w.heap.size + 1, 2, none⟩ = some (.int .i64 0) := cell_of hrc 2
  have f2 : w1.frozen? ⟨w.heap.size + 1, 2, none⟩ = false := frozen_of hrc 2
  have y3 : w1.cell? ⟨w.heap.size + 1, 3, none⟩ = some (.int .i64 0) := cell_of hrc 3
  have f3 : w1.frozen? ⟨w.heap.size + 1, 3, none⟩ = false := frozen_of hrc 3
  have y4 : w1.cell? ⟨w.heap.size + 1, 4, none⟩ = some (.int .i64 0) := cell_of hrc 4
  have f4 : w1.frozen? ⟨w.heap.size + 1, 4, none⟩ = false := frozen_of hrc 4
  have y5 : w1.cell? ⟨w.heap.size + 1, 5, none⟩ = some (.int .i64 0) := cell_of hrc 5
  have f5 : w1.frozen? ⟨w.heap.size + 1, 5, none⟩ = false := frozen_of hrc 5
  have y6 : w1.cell? ⟨w.heap.size + 1, 6, none⟩ = some (.int .i64 0) := cell_of hrc 6
  have f6 : w1.frozen? ⟨w.heap.size + 1, 6, none⟩ = false := frozen_of hrc 6
  have y7 : w1.cell? ⟨w.heap.size + 1, 7, none⟩ = some (.int .i64 0) := cell_of hrc 7
  have f7 : w1.frozen? ⟨w.heap.size + 1, 7, none⟩ = false := frozen_of hrc 7
  have HRC := Lib.hid hrc
  clear hrc hb1
  have hg := (H.out.below (hw1.mono H.out.size)).word
  have h0 : 0 < w1.heap.size := by omega
  go_wp2_with fail
  refine (told_word (H.out.below ((hw1.mono H.out.size).alloc (by have := H.out.size; omega) _))).mono ?_
  rintro e w' ⟨rfl, rfl⟩
  go_wp2_with fail
  have hX := store8 w1 (w.heap.size + 1) 23 _ _ _ _ _ _ _ _ (.int .i64 0) (.int .i64 0) (.int .i64 0) (.int .i64 0) (.int .i64 0) (.int .i64 0) (.int .i64 0) (.int .i64 0) HRC.out
  have hXb := below8 w1 (w.heap.size + 1) (.int .i64 0) (.int .i64 0) (.int .i64 0) (.int .i64 0) (.int .i64 0) (.int .i64 0) (.int .i64 0) (.int .i64 0) hw1 (by omega)
  exact bodyPost_ret (results27 _ _ (w.heap.size + 1) _ _ _ _ _ _ _ _ _ rfl rfl (alloc_heap_old _ hX)) rfl ⟨rfl, hXb.alloc hXb.size _⟩
set_option maxRecDepth 100000 in
set_option maxHeartbeats 1000000 in
theorem round_num_c (s : Sha.St) (hs : s.ok) (i x : Int) (c0 : 0 ≤ i) (c1 : i < 64) (c2 : x < 0) {B : Nat} {aw ab : Addr} {w : World} (h : Glob B aw ab w) :
    Calls Tryd.prog 27 #[.agg #[.int .i64 s.a, .int .i64 s.b, .int .i64 s.c, .int .i64 s.d, .int .i64 s.e, .int .i64 s.f, .int .i64 s.g, .int .i64 s.h], .int .i64 i, .int .i64 x] w fun e w' => e = .returned (.tuple #[.agg #[.int .i64 0, .int .i64 0, .int .i64 0, .int .i64 0, .int .i64 0, .int .i64 0, .int .i64 0, .int .i64 0], .int .i64 11]) ∧ Below w.heap.size w w' := by
  have H := Lib.hid h
  have Hs := Lib.hid hs
  clear h hs
  go_enter Tryd.func27, Tryd.ntmps27
  go_wp2_with fail
  refine (of_any s Hs.out _).mono ?_
  rintro e w1 ⟨rfl, hb1⟩
  simp only [World.size_alloc] at hb1
  have z1 : w.heap.size + 1 < w1.heap.size := by have := hb1.size; simp at this; omega
  have hrc : w1.heap[w.heap.size + 1]? = some (.cells #[.int .i64 0, .int .i64 0, .int .i64 0, .int .i64 0, .int .i64 0, .int .i64 0, .int .i64 0, .int .i64 0] 23 (0, 0)) := (hb1.block _ (by omega)).trans (alloc_heap_at _ _ _ (by simp))
  have hw1 : Below w.heap.size w w1 := (((Below.refl _ w).alloc (Nat.le_refl _) _).alloc (by simp) _).trans (hb1.mono (by omega))
  have y0 : w1.cell? ⟨w.heap.size + 1, 0, none⟩ = some (.int .i64 0) := cell_of hrc 0
  have f0 : w1.frozen? ⟨w.heap.size + 1, 0, none⟩ = false := frozen_of hrc 0
  have y1 : w1.cell? ⟨w.heap.size + 1, 1, none⟩ = some (.int .i64 0) := cell_of hrc 1
  have f1 : w1.frozen? ⟨w.heap.size + 1, 1, none⟩ = false := frozen_of hrc 1
  have y2 : w1.cell? ⟨w.heap.size + 1, 2, none⟩ = some (.int .i64 0) := cell_of hrc 2
  have f2 : w1.frozen? ⟨w.heap.size + 1, 2, none⟩ = false := frozen_of hrc 2
  have y3 : w1.cell? ⟨w.heap.size + 1, 3, none⟩ = some (.int .i64 0) := cell_of hrc 3
  have f3 : w1.frozen? ⟨w.heap.size + 1, 3, none⟩ = false := frozen_of hrc 3
  have y4 : w1.cell? ⟨w.heap.size + 1, 4, none⟩ = some (.int .i64 0) := cell_of hrc 4
  have f4 : w1.frozen? ⟨w.heap.size + 1, 4, none⟩ = false := frozen_of hrc 4
  have y5 : w1.cell? ⟨w.heap.size + 1, 5, none⟩ = some (.int .i64 0) := cell_of hrc 5
  have f5 : w1.frozen? ⟨w.heap.size + 1, 5, none⟩ = false := frozen_of hrc 5
  have y6 : w1.cell? ⟨w.heap.size + 1, 6, none⟩ = some (.int .i64 0) := cell_of hrc 6
  have f6 : w1.frozen? ⟨w.heap.size + 1, 6, none⟩ = false := frozen_of hrc 6
  have y7 : w1.cell? ⟨w.heap.size + 1, 7, none⟩ = some (.int .i64 0) := cell_of hrc 7
  have f7 : w1.frozen? ⟨w.heap.size + 1, 7, none⟩ = false := frozen_of hrc 7
  have HRC := Lib.hid hrc
  clear hrc hb1
  have hg := (H.out.below (hw1.mono H.out.size)).word
  have h0 : 0 < w1.heap.size := by omega
  go_wp2_with fail
  refine (told_word (H.out.below ((hw1.mono H.out.size).alloc (by have := H.out.size; omega) _))).mono ?_
  rintro e w' ⟨rfl, rfl⟩
  go_wp2_with fail
  have hX := store8 w1 (w.heap.size + 1) 23 _ _ _ _ _ _ _ _ (.int .i64 0) (.int .i64 0) (.int .i64 0) (.int .i64 0) (.int .i64 0) (.int .i64 0) (.int .i64 0) (.int .i64 0) HRC.out
  have hXb := below8 w1 (w.heap.size + 1) (.int .i64 0) (.int .i64 0) (.int .i64 0) (.int .i64 0) (.int .i64 0) (.int .i64 0) (.int .i64 0) (.int .i64 0) hw1 (by omega)
  exact bodyPost_ret (results27 _ _ (w.heap.size + 1) _ _ _ _ _ _ _ _ _ rfl rfl (alloc_heap_old _ hX)) rfl ⟨rfl, hXb.alloc hXb.size _⟩
set_option maxRecDepth 100000 in
set_option maxHeartbeats 1000000 in
theorem round_num_d (s : Sha.St) (hs : s.ok) (i x : Int) (c0 : 0 ≤ i) (c1 : i < 64) (c2 : 0 ≤ x) (c3 : 4294967295 < x) {B : Nat} {aw ab : Addr} {w : World} (h : Glob B aw ab w) :
    Calls Tryd.prog 27 #[.agg #[.int .i64 s.a, .int .i64 s.b, .int .i64 s.c, .int .i64 s.d, .int .i64 s.e, .int .i64 s.f, .int .i64 s.g, .int .i64 s.h], .int .i64 i, .int .i64 x] w fun e w' => e = .returned (.tuple #[.agg #[.int .i64 0, .int .i64 0, .int .i64 0, .int .i64 0, .int .i64 0, .int .i64 0, .int .i64 0, .int .i64 0], .int .i64 11]) ∧ Below w.heap.size w w' := by
  have H := Lib.hid h
  have Hs := Lib.hid hs
  clear h hs
  go_enter Tryd.func27, Tryd.ntmps27
  go_wp2_with fail
  refine (of_any s Hs.out _).mono ?_
  rintro e w1 ⟨rfl, hb1⟩
  simp only [World.size_alloc] at hb1
  have z1 : w.heap.size + 1 < w1.heap.size := by have := hb1.size; simp at this; omega
  have hrc : w1.heap[w.heap.size + 1]? = some (.cells #[.int .i64 0, .int .i64 0, .int .i64 0, .int .i64 0, .int .i64 0, .int .i64 0, .int .i64 0, .int .i64 0] 23 (0, 0)) := (hb1.block _ (by omega)).trans (alloc_heap_at _ _ _ (by simp))
  have hw1 : Below w.heap.size w w1 := (((Below.refl _ w).alloc (Nat.le_refl _) _).alloc (by simp) _).trans (hb1.mono (by omega))
  have y0 : w1.cell? ⟨w.heap.size + 1, 0, none⟩ = some (.int .i64 0) := cell_of hrc 0
  have f0 : w1.frozen? ⟨w.heap.size + 1, 0, none⟩ = false := frozen_of hrc 0
  have y1 : w1.cell? ⟨w.heap.size + 1, 1, none⟩ = some (.int .i64 0) := cell_of hrc 1
  have f1 : w1.frozen? ⟨w.heap.size + 1, 1, none⟩ = false := frozen_of hrc 1
  have y2 : w1.cell? ⟨w.heap.size + 1, 2, none⟩ = some (.int .i64 0) := cell_of hrc 2
  have f2 : w1.frozen? ⟨w.heap.size + 1, 2, none⟩ = false := frozen_of hrc 2
  have y3 : w1.cell? ⟨w.heap.size + 1, 3, none⟩ = some (.int .i64 0) := cell_of hrc 3
  have f3 : w1.frozen? ⟨w.heap.size + 1, 3, none⟩ = false := frozen_of hrc 3
  have y4 : w1.cell? ⟨w.heap.size + 1, 4, none⟩ = some (.int .i64 0) := cell_of hrc 4
  have f4 : w1.frozen? ⟨w.heap.size + 1, 4, none⟩ = false := frozen_of hrc 4
  have y5 : w1.cell? ⟨w.heap.size + 1, 5, none⟩ = some (.int .i64 0) := cell_of hrc 5
  have f5 : w1.frozen? ⟨w.heap.size + 1, 5, none⟩ = false := frozen_of hrc 5
  have y6 : w1.cell? ⟨w.heap.size + 1, 6, none⟩ = some (.int .i64 0) := cell_of hrc 6
  have f6 : w1.frozen? ⟨w.heap.size + 1, 6, none⟩ = false := frozen_of hrc 6
  have y7 : w1.cell? ⟨w.heap.size + 1, 7, none⟩ = some (.int .i64 0) := cell_of hrc 7
  have f7 : w1.frozen? ⟨w.heap.size + 1, 7, none⟩ = false := frozen_of hrc 7
  have HRC := Lib.hid hrc
  clear hrc hb1
  have hg := (H.out.below (hw1.mono H.out.size)).word
  have h0 : 0 < w1.heap.size := by omega
  go_wp2_with fail
  refine (told_word (H.out.below ((hw1.mono H.out.size).alloc (by have := H.out.size; omega) _))).mono ?_
  rintro e w' ⟨rfl, rfl⟩
  go_wp2_with fail
  have hX := store8 w1 (w.heap.size + 1) 23 _ _ _ _ _ _ _ _ (.int .i64 0) (.int .i64 0) (.int .i64 0) (.int .i64 0) (.int .i64 0) (.int .i64 0) (.int .i64 0) (.int .i64 0) HRC.out
  have hXb := below8 w1 (w.heap.size + 1) (.int .i64 0) (.int .i64 0) (.int .i64 0) (.int .i64 0) (.int .i64 0) (.int .i64 0) (.int .i64 0) (.int .i64 0) hw1 (by omega)
  exact bodyPost_ret (results27 _ _ (w.heap.size + 1) _ _ _ _ _ _ _ _ _ rfl rfl (alloc_heap_old _ hX)) rfl ⟨rfl, hXb.alloc hXb.size _⟩
theorem round_num (s : Sha.St) (hs : s.ok) (i x : Int) (hbad : ¬ (0 ≤ i ∧ i < 64 ∧ 0 ≤ x ∧ x ≤ 4294967295)) {B : Nat} {aw ab : Addr} {w : World} (h : Glob B aw ab w) :
    Calls Tryd.prog 27 #[.agg #[.int .i64 s.a, .int .i64 s.b, .int .i64 s.c, .int .i64 s.d, .int .i64 s.e, .int .i64 s.f, .int .i64 s.g, .int .i64 s.h], .int .i64 i, .int .i64 x] w fun e w' => e = .returned (.tuple #[.agg #[.int .i64 0, .int .i64 0, .int .i64 0, .int .i64 0, .int .i64 0, .int .i64 0, .int .i64 0, .int .i64 0], .int .i64 11]) ∧ Below w.heap.size w w' := by
  by_cases c0 : i < 0
  · exact round_num_a s hs i x c0 h
  by_cases c1 : 64 ≤ i
  · exact round_num_b s hs i x (by omega) c1 h
  by_cases c2 : x < 0
  · exact round_num_c s hs i x (by omega) (by omega) c2 h
  by_cases c3 : 4294967295 < x
  · exact round_num_d s hs i x (by omega) (by omega) (by omega) c3 h
  exact absurd ⟨by omega, by omega, by omega, by omega⟩ hbad
set_option maxRecDepth 100000 in
set_option maxHeartbeats 1000000 in
theorem round_ok (s : Sha.St) (hs : s.ok) (i x : Nat) (hi : i < 64) (hx : x < 4294967296) {B : Nat} {aw ab : Addr} {w : World} (h : Glob B aw ab w) :
    Calls Tryd.prog 27 #[.agg #[.int .i64 s.a, .int .i64 s.b, .int .i64 s.c, .int .i64 s.d, .int .i64 s.e, .int .i64 s.f, .int .i64 s.g, .int .i64 s.h], .int .i64 (i : Int), .int .i64 (x : Int)] w fun e w' => e = .returned (.tuple #[.agg (row64 (s.round (Sha.K.getD i 0) x)), .int .i64 0]) ∧ Below w.heap.size w w' := by
  have H := Lib.hid h
  have Hs := Lib.hid hs
  have i0 : (0 : Int) ≤ (i : Int) := by omega
  have i1 : (i : Int) < 64 := by omega
  have x0 : (0 : Int) ≤ (x : Int) := by omega
  have x1 : (x : Int) ≤ 4294967295 := by omega
  have Hi := Lib.hid hi
  clear h hs hx hi
  go_enter Tryd.func27, Tryd.ntmps27
  go_wp2_with fail
  refine (of_any s Hs.out _).mono ?_
  rintro e w1 ⟨rfl, hb1⟩
  simp only [World.size_alloc] at hb1
  have z1 : w.heap.size + 1 < w1.heap.size := by have := hb1.size; simp at this; omega
  have hrc : w1.heap[w.heap.size + 1]? = some (.cells #[.int .i64 0, .int .i64 0, .int .i64 0, .int .i64 0, .int .i64 0, .int .i64 0, .int .i64 0, .int .i64 0] 23 (0, 0)) := (hb1.block _ (by omega)).trans (alloc_heap_at _ _ _ (by simp))
  have hw1 : Below w.heap.size w w1 := (((Below.refl _ w).alloc (Nat.le_refl _) _).alloc (by simp) _).trans (hb1.mono (by omega))
  have HRC := Lib.hid hrc
  clear hrc hb1
  go_wp2_with fail
  have hg2 := H.out.below (((hw1.mono H.out.size).alloc (by have := H.out.size; omega) (.cells #[.int .u32 s.a, .int .u32 s.b, .int .u32 s.c, .int .u32 s.d, .int .u32 s.e, .int .u32 s.f, .int .u32 s.g, .int .u32 s.h] 78)).alloc (by have := H.out.size; simp; omega) (.cells #[.int .u32 s.a, .int .u32 s.b, .int .u32 s.c, .int .u32 s.d, .int .u32 s.e, .int .u32 s.f, .int .u32 s.g, .int .u32 s.h] 83))
  have hr := round_any (w1.heap.size + 1) 83 s Hs.out i x hg2 (alloc_heap_at _ _ _ (by simp)) Hi.out
  have Hr := Lib.hid hr
  clear hr hg2
  refine Hr.out.mono ?_
  rintro e W3 ⟨rfl, ha3, hf3⟩
  have A3 := Lib.hid ha3
  have F3 := Lib.hid hf3
  clear ha3 hf3
  go_wp2_with fail
  refine (told_any (w1.heap.size + 1) 83 _ (Sha.St.round_ok Hs.out _ _) W3 A3.out).mono ?_
  rintro e W4 ⟨rfl, hf4⟩
  have hfr : Far (· = w1.heap.size + 1) ((w1.alloc (.cells #[.int .u32 s.a, .int .u32 s.b, .int .u32 s.c, .int .u32 s.d, .int .u32 s.e, .int .u32 s.f, .int .u32 s.g, .int .u32 s.h] 78)).alloc (.cells #[.int .u32 s.a, .int .u32 s.b, .int .u32 s.c, .int .u32 s.d, .int .u32 s.e, .int .u32 s.f, .int .u32 s.g, .int .u32 s.h] 83)) W4 := F3.out.step hf4 (fun _ _ e => e.elim)
  have hc4 : W4.heap[w.heap.size + 1]? = some (.cells #[.int .i64 0, .int .i64 0, .int .i64 0, .int .i64 0, .int .i64 0, .int .i64 0, .int .i64 0, .int .i64 0] 23 (0, 0)) := hfr.heap (alloc_heap_old _ (alloc_heap_old _ HRC.out)) (by omega)
  have hb4 : Below w.heap.size w W4 := ((hw1.alloc (by omega) _).alloc (by simp; omega) _).trans (hfr.to_below (by simp; omega) (by omega))
  obtain ⟨S, hS⟩ : ∃ S, s.round (Sha.K.getD i 0) x = S := ⟨_, rfl⟩
  rw [hS]
  have HSS := Lib.hid hS
  clear hS
  unfold row64
  have y0 : W4.cell? ⟨w.heap.size + 1, 0, none⟩ = some (.int .i64 0) := cell_of hc4 0
  have f0 : W4.frozen? ⟨w.heap.size + 1, 0, none⟩ = false := frozen_of hc4 0
  have y1 : W4.cell? ⟨w.heap.size + 1, 1, none⟩ = some (.int .i64 0) := cell_of hc4 1
  have f1 : W4.frozen? ⟨w.heap.size + 1, 1, none⟩ = false := frozen_of hc4 1
  have y2 : W4.cell? ⟨w.heap.size + 1, 2, none⟩ = some (.int .i64 0) := cell_of hc4 2
  have f2 : W4.frozen? ⟨w.heap.size + 1, 2, none⟩ = false := frozen_of hc4 2
  have y3 : W4.cell? ⟨w.heap.size + 1, 3, none⟩ = some (.int .i64 0) := cell_of hc4 3
  have f3 : W4.frozen? ⟨w.heap.size + 1, 3, none⟩ = false := frozen_of hc4 3
  have y4 : W4.cell? ⟨w.heap.size + 1, 4, none⟩ = some (.int .i64 0) := cell_of hc4 4
  have f4 : W4.frozen? ⟨w.heap.size + 1, 4, none⟩ = false := frozen_of hc4 4
  have y5 : W4.cell? ⟨w.heap.size + 1, 5, none⟩ = some (.int .i64 0) := cell_of hc4 5
  have f5 : W4.frozen? ⟨w.heap.size + 1, 5, none⟩ = false := frozen_of hc4 5
  have y6 : W4.cell? ⟨w.heap.size + 1, 6, none⟩ = some (.int .i64 0) := cell_of hc4 6
  have f6 : W4.frozen? ⟨w.heap.size + 1, 6, none⟩ = false := frozen_of hc4 6
  have y7 : W4.cell? ⟨w.heap.size + 1, 7, none⟩ = some (.int .i64 0) := cell_of hc4 7
  have f7 : W4.frozen? ⟨w.heap.size + 1, 7, none⟩ = false := frozen_of hc4 7
  have HC4 := Lib.hid hc4
  clear hc4 hf4 hfr
  go_wp2_with fail
  have hX := store8 W4 (w.heap.size + 1) 23 _ _ _ _ _ _ _ _ (.int .i64 S.a) (.int .i64 S.b) (.int .i64 S.c) (.int .i64 S.d) (.int .i64 S.e) (.int .i64 S.f) (.int .i64 S.g) (.int .i64 S.h) HC4.out
  have hXb := below8 W4 (w.heap.size + 1) (.int .i64 S.a) (.int .i64 S.b) (.int .i64 S.c) (.int .i64 S.d) (.int .i64 S.e) (.int .i64 S.f) (.int .i64 S.g) (.int .i64 S.h) hb4 (by omega)
  exact bodyPost_ret (results27 _ _ (w.heap.size + 1) _ _ _ _ _ _ _ _ _ rfl rfl hX) rfl ⟨by rw [HSS.out]; rfl, hXb⟩
end Go.Proofs.YtfafidholldjlaaDoor
