/- The rounds' errors; First. -/
import Derived.Test.YtfafidholldjlaaDoorA10
set_option linter.unusedVariables false
set_option linter.unusedSimpArgs false
namespace Go.Proofs.YtfafidholldjlaaDoor
open Go.RowKit
/-- Eight numbers that are words. -/
def Words8 (s0 s1 s2 s3 s4 s5 s6 s7 : Int) : Prop := (0 ≤ s0 ∧ s0 ≤ 4294967295) ∧ (0 ≤ s1 ∧ s1 ≤ 4294967295) ∧ (0 ≤ s2 ∧ s2 ≤ 4294967295) ∧ (0 ≤ s3 ∧ s3 ≤ 4294967295) ∧ (0 ≤ s4 ∧ s4 ≤ 4294967295) ∧ (0 ≤ s5 ∧ s5 ≤ 4294967295) ∧ (0 ≤ s6 ∧ s6 ≤ 4294967295) ∧ (0 ≤ s7 ∧ s7 ≤ 4294967295)
theorem of_bad (s0 s1 s2 s3 s4 s5 s6 s7 : Int) (hbad : ¬ Words8 s0 s1 s2 s3 s4 s5 s6 s7) {B : Nat} {aw ab : Addr} {w : World} (h : Glob B aw ab w) :
    Calls Tryd.prog 65 #[.agg #[.int .i64 s0, .int .i64 s1, .int .i64 s2, .int .i64 s3, .int .i64 s4, .int .i64 s5, .int .i64 s6, .int .i64 s7]] w fun e w' => e = .returned (.tuple #[.agg #[.int .u32 0, .int .u32 0, .int .u32 0, .int .u32 0, .int .u32 0, .int .u32 0, .int .u32 0, .int .u32 0], .iface 174 (.pointer (some aw))]) ∧ Below w.heap.size w w' := by
  have hz : 0 < w.heap.size := by have := h.pos; omega
  have hw := h.word
  by_cases c0 : s0 < 0
  · exact of_lo0 s0 s1 s2 s3 s4 s5 s6 s7 w _ _ hz hw  c0
  have a0 : 0 ≤ s0 := by omega
  by_cases d0 : 4294967295 < s0
  · exact of_hi0 s0 s1 s2 s3 s4 s5 s6 s7 w _ _ hz hw  d0
  have b0 : s0 ≤ 4294967295 := by omega
  by_cases c1 : s1 < 0
  · exact of_lo1 s0 s1 s2 s3 s4 s5 s6 s7 w _ _ hz hw a0 b0 c1
  have a1 : 0 ≤ s1 := by omega
  by_cases d1 : 4294967295 < s1
  · exact of_hi1 s0 s1 s2 s3 s4 s5 s6 s7 w _ _ hz hw a0 b0 d1
  have b1 : s1 ≤ 4294967295 := by omega
  by_cases c2 : s2 < 0
  · exact of_lo2 s0 s1 s2 s3 s4 s5 s6 s7 w _ _ hz hw a0 b0 a1 b1 c2
  have a2 : 0 ≤ s2 := by omega
  by_cases d2 : 4294967295 < s2
  · exact of_hi2 s0 s1 s2 s3 s4 s5 s6 s7 w _ _ hz hw a0 b0 a1 b1 d2
  have b2 : s2 ≤ 4294967295 := by omega
  by_cases c3 : s3 < 0
  · exact of_lo3 s0 s1 s2 s3 s4 s5 s6 s7 w _ _ hz hw a0 b0 a1 b1 a2 b2 c3
  have a3 : 0 ≤ s3 := by omega
  by_cases d3 : 4294967295 < s3
  · exact of_hi3 s0 s1 s2 s3 s4 s5 s6 s7 w _ _ hz hw a0 b0 a1 b1 a2 b2 d3
  have b3 : s3 ≤ 4294967295 := by omega
  by_cases c4 : s4 < 0
  · exact of_lo4 s0 s1 s2 s3 s4 s5 s6 s7 w _ _ hz hw a0 b0 a1 b1 a2 b2 a3 b3 c4
  have a4 : 0 ≤ s4 := by omega
  by_cases d4 : 4294967295 < s4
  · exact of_hi4 s0 s1 s2 s3 s4 s5 s6 s7 w _ _ hz hw a0 b0 a1 b1 a2 b2 a3 b3 d4
  have b4 : s4 ≤ 4294967295 := by omega
  by_cases c5 : s5 < 0
  · exact of_lo5 s0 s1 s2 s3 s4 s5 s6 s7 w _ _ hz hw a0 b0 a1 b1 a2 b2 a3 b3 a4 b4 c5
  have a5 : 0 ≤ s5 := by omega
  by_cases d5 : 4294967295 < s5
  · exact of_hi5 s0 s1 s2 s3 s4 s5 s6 s7 w _ _ hz hw a0 b0 a1 b1 a2 b2 a3 b3 a4 b4 d5
  have b5 : s5 ≤ 4294967295 := by omega
  by_cases c6 : s6 < 0
  · exact of_lo6 s0 s1 s2 s3 s4 s5 s6 s7 w _ _ hz hw a0 b0 a1 b1 a2 b2 a3 b3 a4 b4 a5 b5 c6
  have a6 : 0 ≤ s6 := by omega
  by_cases d6 : 4294967295 < s6
  · exact of_hi6 s0 s1 s2 s3 s4 s5 s6 s7 w _ _ hz hw a0 b0 a1 b1 a2 b2 a3 b3 a4 b4 a5 b5 d6
  have b6 : s6 ≤ 4294967295 := by omega
  by_cases c7 : s7 < 0
  · exact of_lo7 s0 s1 s2 s3 s4 s5 s6 s7 w _ _ hz hw a0 b0 a1 b1 a2 b2 a3 b3 a4 b4 a5 b5 a6 b6 c7
  have a7 : 0 ≤ s7 := by omega
  by_cases d7 : 4294967295 < s7
  · exact of_hi7 s0 s1 s2 s3 s4 s5 s6 s7 w _ _ hz hw a0 b0 a1 b1 a2 b2 a3 b3 a4 b4 a5 b5 a6 b6 d7
  have b7 : s7 ≤ 4294967295 := by omega
  exact absurd ⟨⟨a0, b0⟩, ⟨a1, b1⟩, ⟨a2, b2⟩, ⟨a3, b3⟩, ⟨a4, b4⟩, ⟨a5, b5⟩, ⟨a6, b6⟩, ⟨a7, b7⟩⟩ hbad
theorem first_any (w : World) : Calls Tryd.prog 33 #[] w fun e w' => e = .returned (.agg #[.int .i64 1779033703, .int .i64 3144134277, .int .i64 1013904242, .int .i64 2773480762, .int .i64 1359893119, .int .i64 2600822924, .int .i64 528734635, .int .i64 1541459225]) ∧ Below w.heap.size w w' := by
  go_enter Tryd.func33, Tryd.ntmps33
  go_wp2
  exact bodyPost_ret (v := .agg #[.int .i64 1779033703, .int .i64 3144134277, .int .i64 1013904242, .int .i64 2773480762, .int .i64 1359893119, .int .i64 2600822924, .int .i64 528734635, .int .i64 1541459225]) (by simp [results, Tryd.results33, go_sem]) rfl ⟨rfl, (Below.refl _ _).alloc (Nat.le_refl _) _⟩
set_option maxRecDepth 100000 in
theorem schedule_bad {B : Nat} {aw ab : Addr} {w : World} (h : Glob B aw ab w) (s : ByteArray) (hs : s.size ≠ 64) :
    Calls Tryd.prog 25 #[.string s] w fun e w' => e = .returned (.tuple #[.slice none 0 0, .int .i64 10]) ∧ w = w' := by
  have H := Lib.hid h
  have hcb := Lib.hid (checkBlock_bad h s hs)
  clear h hs
  go_enter Tryd.func25, Tryd.ntmps25
  go_wp2_with fail
  refine hcb.out.mono ?_
  rintro e w' ⟨rfl, rfl⟩
  go_wp2_with fail
  refine (told_block H.out).mono ?_
  rintro e w' ⟨rfl, rfl⟩
  go_wp2_with fail
  go_ret2
  exact ⟨rfl, rfl⟩
set_option maxRecDepth 100000 in
set_option maxHeartbeats 1000000 in
theorem compress_word (s0 s1 s2 s3 s4 s5 s6 s7 : Int) (hbad : ¬ Words8 s0 s1 s2 s3 s4 s5 s6 s7) {B : Nat} {aw ab : Addr} {w : World} (h : Glob B aw ab w) (blk : ByteArray) :
    Calls Tryd.prog 29 #[.agg #[.int .i64 s0, .int .i64 s1, .int .i64 s2, .int .i64 s3, .int .i64 s4, .int .i64 s5, .int .i64 s6, .int .i64 s7], .string blk] w fun e w' => e = .returned (.tuple #[.agg #[.int .i64 0, .int .i64 0, .int .i64 0, .int .i64 0, .int .i64 0, .int .i64 0, .int .i64 0, .int .i64 0], .int .i64 11]) ∧ Below w.heap.size w w' := by
  have H := Lib.hid h
  have Hb := Lib.hid hbad
  have hof := Lib.hid (fun W (hW : Below w.heap.size w W) => of_bad s0 s1 s2 s3 s4 s5 s6 s7 Hb.out (h.below (hW.mono h.size)))
  clear h hbad
  go_enter Tryd.func29, Tryd.ntmps29
  go_wp2_with fail
  refine (hof.out _ (by exact ((Below.refl _ _).alloc (Nat.le_refl _) _).alloc (by simp) _)).mono ?_
  rintro e w1 ⟨rfl, hb1⟩
  simp only [World.size_alloc] at hb1
  have z1 : w.heap.size + 1 < w1.heap.size := by have := hb1.size; simp at this; omega
  have hrc : w1.heap[w.heap.size + 1]? = some (.cells #[.int .i64 0, .int .i64 0, .int .i64 0, .int .i64 0, .int .i64 0, .int .i64 0, .int .i64 0, .int .i64 0] 23 (0, 0)) := (hb1.block _ (by omega)).trans (alloc_heap_at _ _ _ (by simp))
  have hw1 : Below w.heap.size w w1 := (((Below.refl _ w).alloc (Nat.le_refl _) _).alloc (by simp) _).trans (hb1.mono (by omega))
  have y0 : w1.cell? ⟨w.heap.size + 1, 0, none⟩ = some (.int .i64 0) := cell_of hrc 0
  have f0 : w1.frozen? ⟨w.heap.size + 1, 0, none⟩ = false := frozen_of hrc 0
  have y1 : w1.cell? ⟨w.heap.size + 1, 1, none⟩ = some (.int .i64 0) := cell_of hrc 1
  have f1 : w1.frozen? ⟨w.heap.size + 1, 1, none⟩ = false := frozen_of hrc 1
  have y2 : w1.cell? ⟨w.heap.size + 1, 2, none⟩ = some (.int .i64 0) := cell_of hrc 2
  have f2 : w1.frozen? ⟨w.heap.size + 1, 2, none⟩ = false := frozen_of hrc 2
  have y3 : w1.cell? ⟨w.heap.size + 1, 3, none⟩ = some (.int .i64 0) := cell_of hrc 3
  have f3 : w1.frozen? ⟨w.heap.size + 1, 3, none⟩ = false := frozen_of hrc 3
  have y4 : w1.cell? ⟨w.heap.size + 1, 4, none⟩ = some (.int .i64 0) := cell_of hrc 4
  have f4 : w1.frozen? ⟨w.heap.size + 1, 4, none⟩ = false := frozen_of hrc 4
  have y5 : w1.cell? ⟨w.heap.size + 1, 5, none⟩ = some (.int .i64 0) := cell_of hrc 5
  have f5 : w1.frozen? ⟨w.heap.size + 1, 5, none⟩ = false := frozen_of hrc 5
  have y6 : w1.cell? ⟨w.heap.size + 1, 6, none⟩ = some (.int .i64 0) := cell_of hrc 6
  have f6 : w1.frozen? ⟨w.heap.size + 1, 6, none⟩ = false := frozen_of hrc 6
  have y7 : w1.cell? ⟨w.heap.size + 1, 7, none⟩ = some (.int .i64 0) := cell_of hrc 7
  have f7 : w1.frozen? ⟨w.heap.size + 1, 7, none⟩ = false := frozen_of hrc 7
  have HRC := Lib.hid hrc
  clear hrc hb1
  go_wp2_with fail
  refine (told_word (H.out.below ((hw1.mono H.out.size).alloc (by have := H.out.size; omega) _))).mono ?_
  rintro e w' ⟨rfl, rfl⟩
  go_wp2_with fail
  have hX := store8 w1 (w.heap.size + 1) 23 _ _ _ _ _ _ _ _ (.int .i64 0) (.int .i64 0) (.int .i64 0) (.int .i64 0) (.int .i64 0) (.int .i64 0) (.int .i64 0) (.int .i64 0) HRC.out
  have hXb := below8 w1 (w.heap.size + 1) (.int .i64 0) (.int .i64 0) (.int .i64 0) (.int .i64 0) (.int .i64 0) (.int .i64 0) (.int .i64 0) (.int .i64 0) hw1 (by omega)
  exact bodyPost_ret (results29 _ _ (w.heap.size + 1) _ _ _ _ _ _ _ _ _ rfl rfl (alloc_heap_old _ hX)) rfl ⟨rfl, hXb.alloc hXb.size _⟩

set_option maxRecDepth 100000 in
set_option maxHeartbeats 1000000 in
theorem compress_block (s : Sha.St) (hs : s.ok) {B : Nat} {aw ab : Addr} {w : World} (h : Glob B aw ab w) (blk : ByteArray) (hb : blk.size ≠ 64) :
    Calls Tryd.prog 29 #[.agg #[.int .i64 s.a, .int .i64 s.b, .int .i64 s.c, .int .i64 s.d, .int .i64 s.e, .int .i64 s.f, .int .i64 s.g, .int .i64 s.h], .string blk] w fun e w' => e = .returned (.tuple #[.agg #[.int .i64 0, .int .i64 0, .int .i64 0, .int .i64 0, .int .i64 0, .int .i64 0, .int .i64 0, .int .i64 0], .int .i64 10]) ∧ Below w.heap.size w w' := by
  have H := Lib.hid h
  have Hs := Lib.hid hs
  have Hb := Lib.hid hb
  clear h hs hb
  go_enter Tryd.func29, Tryd.ntmps29
  go_wp2_with fail
  refine (of_any s Hs.out _).mono ?_
  rintro e w1 ⟨rfl, hb1⟩
  simp only [World.size_alloc] at hb1
  have z1 : w.heap.size + 1 < w1.heap.size := by have := hb1.size; simp at this; omega
  have hrc : w1.heap[w.heap.size + 1]? = some (.cells #[.int .i64 0, .int .i64 0, .int .i64 0, .int .i64 0, .int .i64 0, .int .i64 0, .int .i64 0, .int .i64 0] 23 (0, 0)) := (hb1.block _ (by omega)).trans (alloc_heap_at _ _ _ (by simp))
  have hw1 : Below w.heap.size w w1 := (((Below.refl _ w).alloc (Nat.le_refl _) _).alloc (by simp) _).trans (hb1.mono (by omega))
  have y0 : w1.cell? ⟨w.heap.size + 1, 0, none⟩ = some (.int .i64 0) := cell_of hrc 0
  have f0 : w1.frozen? ⟨w.heap.size + 1, 0, none⟩ = false := frozen_of hrc 0
  have y1 : w1.cell? ⟨w.heap.size + 1, 1, none⟩ = some (.int .i64 0) := cell_of hrc 1
  have f1 : w1.frozen? ⟨w.heap.size + 1, 1, none⟩ = false := frozen_of hrc 1
  have y2 : w1.cell? ⟨w.heap.size + 1, 2, none⟩ = some (.int .i64 0) := cell_of hrc 2
  have f2 : w1.frozen? ⟨w.heap.size + 1, 2, none⟩ = false := frozen_of hrc 2
  have y3 : w1.cell? ⟨w.heap.size + 1, 3, none⟩ = some (.int .i64 0) := cell_of hrc 3
  have f3 : w1.frozen? ⟨w.heap.size + 1, 3, none⟩ = false := frozen_of hrc 3
  have y4 : w1.cell? ⟨w.heap.size + 1, 4, none⟩ = some (.int .i64 0) := cell_of hrc 4
  have f4 : w1.frozen? ⟨w.heap.size + 1, 4, none⟩ = false := frozen_of hrc 4
  have y5 : w1.cell? ⟨w.heap.size + 1, 5, none⟩ = some (.int .i64 0) := cell_of hrc 5
  have f5 : w1.frozen? ⟨w.heap.size + 1, 5, none⟩ = false := frozen_of hrc 5
  have y6 : w1.cell? ⟨w.heap.size + 1, 6, none⟩ = some (.int .i64 0) := cell_of hrc 6
  have f6 : w1.frozen? ⟨w.heap.size + 1, 6, none⟩ = false := frozen_of hrc 6
  have y7 : w1.cell? ⟨w.heap.size + 1, 7, none⟩ = some (.int .i64 0) := cell_of hrc 7
  have f7 : w1.frozen? ⟨w.heap.size + 1, 7, none⟩ = false := frozen_of hrc 7
  have HRC := Lib.hid hrc
  clear hrc hb1
  have HG := H.out.below ((hw1.mono H.out.size).alloc (by have := H.out.size; omega) (.cells #[.int .u32 s.a, .int .u32 s.b, .int .u32 s.c, .int .u32 s.d, .int .u32 s.e, .int .u32 s.f, .int .u32 s.g, .int .u32 s.h] 78))
  have HGh := Lib.hid HG
  clear HG
  go_wp2_with fail
  refine (checkBlock_bad HGh.out blk Hb.out).mono ?_
  rintro e w' ⟨rfl, rfl⟩
  go_wp2_with fail
  refine (told_block HGh.out).mono ?_
  rintro e w' ⟨rfl, rfl⟩
  go_wp2_with fail
  have hX := store8 w1 (w.heap.size + 1) 23 _ _ _ _ _ _ _ _ (.int .i64 0) (.int .i64 0) (.int .i64 0) (.int .i64 0) (.int .i64 0) (.int .i64 0) (.int .i64 0) (.int .i64 0) HRC.out
  have hXb := below8 w1 (w.heap.size + 1) (.int .i64 0) (.int .i64 0) (.int .i64 0) (.int .i64 0) (.int .i64 0) (.int .i64 0) (.int .i64 0) (.int .i64 0) hw1 (by omega)
  exact bodyPost_ret (results29 _ _ (w.heap.size + 1) _ _ _ _ _ _ _ _ _ rfl rfl (alloc_heap_old _ hX)) rfl ⟨rfl, hXb.alloc hXb.size _⟩

theorem results27 (tmps : Array Value) (w : World) (b : Nat) (v0 v1 v2 v3 v4 v5 v6 v7 e : Value) (h4 : tmps.getD 6 undef = .pointer (some ⟨b, 0, none⟩)) (h5 : tmps.getD 7 undef = e) (hb : w.heap[b]? = some (.cells #[v0, v1, v2, v3, v4, v5, v6, v7] 23 (0, 0))) :
    (results Tryd.f27 tmps).run Tryd.prog w = .ok (.tuple #[.agg #[v0, v1, v2, v3, v4, v5, v6, v7], e]) w := by
  have c0 : w.cell? ⟨b, 0, none⟩ = some v0 := cell_of hb 0
  have c1 : w.cell? ⟨b, 1, none⟩ = some v1 := cell_of hb 1
  have c2 : w.cell? ⟨b, 2, none⟩ = some v2 := cell_of hb 2
  have c3 : w.cell? ⟨b, 3, none⟩ = some v3 := cell_of hb 3
  have c4 : w.cell? ⟨b, 4, none⟩ = some v4 := cell_of hb 4
  have c5 : w.cell? ⟨b, 5, none⟩ = some v5 := cell_of hb 5
  have c6 : w.cell? ⟨b, 6, none⟩ = some v6 := cell_of hb 6
  have c7 : w.cell? ⟨b, 7, none⟩ = some v7 := cell_of hb 7
  simp only [Array.getD_eq_getD_getElem?] at h4 h5
  simp [results, Tryd.results27, go_sem, h4, h5, c0, c1, c2, c3, c4, c5, c6, c7]

set_option maxRecDepth 100000 in
set_option maxHeartbeats 1000000 in
theorem round_word (s0 s1 s2 s3 s4 s5 s6 s7 i x : Int) (hbad : ¬ Words8 s0 s1 s2 s3 s4 s5 s6 s7) {B : Nat} {aw ab : Addr} {w : World} (h : Glob B aw ab w) :
    Calls Tryd.prog 27 #[.agg #[.int .i64 s0, .int .i64 s1, .int .i64 s2, .int .i64 s3, .int .i64 s4, .int .i64 s5, .int .i64 s6, .int .i64 s7], .int .i64 i, .int .i64 x] w fun e w' => e = .returned (.tuple #[.agg #[.int .i64 0, .int .i64 0, .int .i64 0, .int .i64 0, .int .i64 0, .int .i64 0, .int .i64 0, .int .i64 0], .int .i64 11]) ∧ Below w.heap.size w w' := by
  have H := Lib.hid h
  have Hb := Lib.hid hbad
  have hof := Lib.hid (fun W (hW : Below w.heap.size w W) => of_bad s0 s1 s2 s3 s4 s5 s6 s7 Hb.out (h.below (hW.mono h.size)))
  clear h hbad
  go_enter Tryd.func27, Tryd.ntmps27
  go_wp2_with fail
  refine (hof.out _ (by exact ((Below.refl _ _).alloc (Nat.le_refl _) _).alloc (by simp) _)).mono ?_
  rintro e w1 ⟨rfl, hb1⟩
  simp only [World.size_alloc] at hb1
  have z1 : w.heap.size + 1 < w1.heap.size := by have := hb1.size; simp at this; omega
  have hrc : w1.heap[w.heap.size + 1]? = some (.cells #[.int .i64 0, .int .i64 0, .int .i64 0, .int .i64 0, .int .i64 0, .int .i64 0, .int .i64 0, .int .i64 0] 23 (0, 0)) := (hb1.block _ (by omega)).trans (alloc_heap_at _ _ _ (by simp))
  have hw1 : Below w.heap.size w w1 := (((Below.refl _ w).alloc (Nat.le_refl _) _).alloc (by simp) _).trans (hb1.mono (by omega))
  have y0 : w1.cell? ⟨w.heap.size + 1, 0, none⟩ = some (.int .i64 0) := cell_of hrc 0
  have f0 : w1.frozen? ⟨w.heap.size + 1, 0, none⟩ = false := frozen_of hrc 0
  have y1 : w1.cell? ⟨w.heap.size + 1, 1, none⟩ = some (.int .i64 0) := cell_of hrc 1
  have f1 : w1.frozen? ⟨w.heap.size + 1, 1, none⟩ = false := frozen_of hrc 1
  have y2 : w1.cell? ⟨w.heap.size + 1, 2, none⟩ = some (.int .i64 0) := cell_of hrc 2
  have f2 : w1.frozen? ⟨w.heap.size + 1, 2, none⟩ = false := frozen_of hrc 2
  have y3 : w1.cell? ⟨w.heap.size + 1, 3, none⟩ = some (.int .i64 0) := cell_of hrc 3
  have f3 : w1.frozen? ⟨w.heap.size + 1, 3, none⟩ = false := frozen_of hrc 3
  have y4 : w1.cell? ⟨w.heap.size + 1, 4, none⟩ = some (.int .i64 0) := cell_of hrc 4
  have f4 : w1.frozen? ⟨w.heap.size + 1, 4, none⟩ = false := frozen_of hrc 4
  have y5 : w1.cell? ⟨w.heap.size + 1, 5, none⟩ = some (.int .i64 0) := cell_of hrc 5
  have f5 : w1.frozen? ⟨w.heap.size + 1, 5, none⟩ = false := frozen_of hrc 5
  have y6 : w1.cell? ⟨w.heap.size + 1, 6, none⟩ = some (.int .i64 0) := cell_of hrc 6
  have f6 : w1.frozen? ⟨w.heap.size + 1, 6, none⟩ = false := frozen_of hrc 6
  have y7 : w1.cell? ⟨w.heap.size + 1, 7, none⟩ = some (.int .i64 0) := cell_of hrc 7
  have f7 : w1.frozen? ⟨w.heap.size + 1, 7, none⟩ = false := frozen_of hrc 7
  have HRC := Lib.hid hrc
  clear hrc hb1
  go_wp2_with fail
  refine (told_word (H.out.below ((hw1.mono H.out.size).alloc (by have := H.out.size; omega) _))).mono ?_
  rintro e w' ⟨rfl, rfl⟩
  go_wp2_with fail
  have hX := store8 w1 (w.heap.size + 1) 23 _ _ _ _ _ _ _ _ (.int .i64 0) (.int .i64 0) (.int .i64 0) (.int .i64 0) (.int .i64 0) (.int .i64 0) (.int .i64 0) (.int .i64 0) HRC.out
  have hXb := below8 w1 (w.heap.size + 1) (.int .i64 0) (.int .i64 0) (.int .i64 0) (.int .i64 0) (.int .i64 0) (.int .i64 0) (.int .i64 0) (.int .i64 0) hw1 (by omega)
  exact bodyPost_ret (results27 _ _ (w.heap.size + 1) _ _ _ _ _ _ _ _ _ rfl rfl (alloc_heap_old _ hX)) rfl ⟨rfl, hXb.alloc hXb.size _⟩

end Go.Proofs.YtfafidholldjlaaDoor
