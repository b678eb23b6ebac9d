/- The document's answer for the rounds: Compress. -/
import Derived.Test.YtfafidholldjlaaDoorR4
set_option linter.unusedVariables false
set_option linter.unusedSimpArgs false
namespace Go.Proofs.YtfafidholldjlaaDoor
open Go.RowKit
theorem results30 (tmps : Array Value) (w : World) (b : Nat) (v0 v1 v2 v3 v4 v5 v6 v7 e : Value) (h4 : tmps.getD 4 undef = .pointer (some ⟨b, 0, none⟩)) (h5 : tmps.getD 5 undef = e) (hb : w.heap[b]? = some (.cells #[v0, v1, v2, v3, v4, v5, v6, v7] 23 (0, 0))) :
    (results Tryd.f30 tmps).run Tryd.prog w = .ok (.tuple #[.agg #[v0, v1, v2, v3, v4, v5, v6, v7], e]) w := by
  have c0 : w.cell? ⟨b, 0, none⟩ = some v0 := cell_of hb 0
  have c1 : w.cell? ⟨b, 1, none⟩ = some v1 := cell_of hb 1
  have c2 : w.cell? ⟨b, 2, none⟩ = some v2 := cell_of hb 2
  have c3 : w.cell? ⟨b, 3, none⟩ = some v3 := cell_of hb 3
  have c4 : w.cell? ⟨b, 4, none⟩ = some v4 := cell_of hb 4
  have c5 : w.cell? ⟨b, 5, none⟩ = some v5 := cell_of hb 5
  have c6 : w.cell? ⟨b, 6, none⟩ = some v6 := cell_of hb 6
  have c7 : w.cell? ⟨b, 7, none⟩ = some v7 := cell_of hb 7
  simp only [Array.getD_eq_getD_getElem?] at h4 h5
  simp [results, Tryd.results30, go_sem, h4, h5, c0, c1, c2, c3, c4, c5, c6, c7]
/-- A row whose first places have another one's words added. -/
def mixRow (r s : List Nat) (t : Nat) : Array Value := ((List.range 8).map fun j => Value.int .i64 ((if j < t then (r.getD j 0 + s.getD j 0) % 4294967296 else r.getD j 0 : Nat) : Int)).toArray
theorem mixRow_get (r s : List Nat) (t k : Nat) (h : k < 8) : (mixRow r s t)[k]? = some (.int .i64 ((if k < t then (r.getD k 0 + s.getD k 0) % 4294967296 else r.getD k 0 : Nat) : Int)) := by
  simp [mixRow, h]
theorem mixRow_set (r s : List Nat) (t : Nat) (h : t < 8) : (mixRow r s t).setIfInBounds t (.int .i64 (((r.getD t 0 + s.getD t 0) % 4294967296 : Nat) : Int)) = mixRow r s (t + 1) := by
  apply Array.ext
  · simp [mixRow]
  · intro i h1 h2
    have hi : i < 8 := by simpa [mixRow] using h2
    simp only [mixRow, List.setIfInBounds_toArray, List.getElem_toArray, List.getElem_set, List.getElem_map, List.getElem_range]
    by_cases e : t = i
    · subst e; simp
    · rw [if_neg e]
      congr 2
      by_cases hl : i < t
      · rw [if_pos hl, if_pos (by omega)]
      · rw [if_neg hl, if_neg (by omega)]
def words8 (s : Sha.St) : List Nat := [s.a, s.b, s.c, s.d, s.e, s.f, s.g, s.h]
theorem mixRow_zero (r s : Sha.St) : mixRow (words8 r) (words8 s) 0 = row64 r := by rfl
theorem mixRow_eight (r s : Sha.St) : mixRow (words8 r) (words8 s) 8 = row64 (r.add s) := by rfl
theorem words8_lt {s : Sha.St} (hs : s.ok) (t : Nat) (ht : t < 8) : (words8 s).getD t 0 < 4294967296 := by
  obtain ⟨l0, l1, l2, l3, l4, l5, l6, l7⟩ := hs
  match t, ht with
  | 0, _ => exact l0
  | 1, _ => exact l1
  | 2, _ => exact l2
  | 3, _ => exact l3
  | 4, _ => exact l4
  | 5, _ => exact l5
  | 6, _ => exact l6
  | 7, _ => exact l7
theorem row64_get (s : Sha.St) (t : Nat) (ht : t < 8) : (row64 s)[t]? = some (.int .i64 ((words8 s).getD t 0 : Nat)) := by
  match t, ht with
  | 0, _ => rfl
  | 1, _ => rfl
  | 2, _ => rfl
  | 3, _ => rfl
  | 4, _ => rfl
  | 5, _ => rfl
  | 6, _ => rfl
  | 7, _ => rfl
set_option maxRecDepth 100000 in
theorem ref_compress_word (s0 s1 s2 s3 s4 s5 s6 s7 : Int) (hbad : ¬ Words8 s0 s1 s2 s3 s4 s5 s6 s7) (b : ByteArray) (w : World) :
    Calls Tryd.prog 30 #[.agg #[.int .i64 s0, .int .i64 s1, .int .i64 s2, .int .i64 s3, .int .i64 s4, .int .i64 s5, .int .i64 s6, .int .i64 s7], .string b] w fun e w' => e = .returned (.tuple #[.agg #[.int .i64 0, .int .i64 0, .int .i64 0, .int .i64 0, .int .i64 0, .int .i64 0, .int .i64 0, .int .i64 0], .int .i64 11]) ∧ Below w.heap.size w w' := by
  have Hb := Lib.hid hbad
  clear hbad
  go_enter Tryd.func30, Tryd.ntmps30
  go_wp2_with fail
  refine (ref_words s0 s1 s2 s3 s4 s5 s6 s7 false (words_false Hb.out) _).mono ?_
  rintro e w1 ⟨rfl, hw⟩
  have hc1 : w1.heap[w.heap.size + 1]? = some (.cells #[.int .i64 0, .int .i64 0, .int .i64 0, .int .i64 0, .int .i64 0, .int .i64 0, .int .i64 0, .int .i64 0] 23 (0, 0)) := by
    rw [hw]; exact alloc_heap_old _ (alloc_heap_at _ _ _ (by simp))
  have hd1 : w1.heap[w.heap.size]? = some (.cells #[.int .i64 s0, .int .i64 s1, .int .i64 s2, .int .i64 s3, .int .i64 s4, .int .i64 s5, .int .i64 s6, .int .i64 s7] 23 (0, 0)) := by
    rw [hw]; exact alloc_heap_old _ (alloc_heap_old _ (alloc_heap_at _ _ _ rfl))
  have hb1 : Below w.heap.size w w1 := by
    rw [hw]; exact ((((Below.refl _ w).alloc (Nat.le_refl _) _).alloc (by simp) _).alloc (by simp; omega) _)
  have hz : w.heap.size + 1 < w1.heap.size := lt_of_heap hc1
  clear hw
  have y0 : w1.cell? ⟨w.heap.size + 1, 0, none⟩ = some (.int .i64 0) := cell_of hc1 0
  have y1 : w1.cell? ⟨w.heap.size + 1, 1, none⟩ = some (.int .i64 0) := cell_of hc1 1
  have y2 : w1.cell? ⟨w.heap.size + 1, 2, none⟩ = some (.int .i64 0) := cell_of hc1 2
  have y3 : w1.cell? ⟨w.heap.size + 1, 3, none⟩ = some (.int .i64 0) := cell_of hc1 3
  have y4 : w1.cell? ⟨w.heap.size + 1, 4, none⟩ = some (.int .i64 0) := cell_of hc1 4
  have y5 : w1.cell? ⟨w.heap.size + 1, 5, none⟩ = some (.int .i64 0) := cell_of hc1 5
  have y6 : w1.cell? ⟨w.heap.size + 1, 6, none⟩ = some (.int .i64 0) := cell_of hc1 6
  have y7 : w1.cell? ⟨w.heap.size + 1, 7, none⟩ = some (.int .i64 0) := cell_of hc1 7
  have f0 : w1.frozen? ⟨w.heap.size + 1, 0, none⟩ = false := frozen_of hc1 0
  have f1 : w1.frozen? ⟨w.heap.size + 1, 1, none⟩ = false := frozen_of hc1 1
  have f2 : w1.frozen? ⟨w.heap.size + 1, 2, none⟩ = false := frozen_of hc1 2
  have f3 : w1.frozen? ⟨w.heap.size + 1, 3, none⟩ = false := frozen_of hc1 3
  have f4 : w1.frozen? ⟨w.heap.size + 1, 4, none⟩ = false := frozen_of hc1 4
  have f5 : w1.frozen? ⟨w.heap.size + 1, 5, none⟩ = false := frozen_of hc1 5
  have f6 : w1.frozen? ⟨w.heap.size + 1, 6, none⟩ = false := frozen_of hc1 6
  have f7 : w1.frozen? ⟨w.heap.size + 1, 7, none⟩ = false := frozen_of hc1 7
  have HC1 := Lib.hid hc1
  have HB1 := Lib.hid hb1
  clear hc1 hb1 hd1
  go_wp2_with fail
  have hX := store8 w1 (w.heap.size + 1) 23 _ _ _ _ _ _ _ _ (.int .i64 0) (.int .i64 0) (.int .i64 0) (.int .i64 0) (.int .i64 0) (.int .i64 0) (.int .i64 0) (.int .i64 0) HC1.out
  have hXb := below8 w1 (w.heap.size + 1) (.int .i64 0) (.int .i64 0) (.int .i64 0) (.int .i64 0) (.int .i64 0) (.int .i64 0) (.int .i64 0) (.int .i64 0) HB1.out (by omega)
  exact bodyPost_ret (results30 _ _ (w.heap.size + 1) _ _ _ _ _ _ _ _ _ rfl rfl hX) rfl ⟨rfl, hXb⟩
set_option maxRecDepth 100000 in
theorem ref_compress_block (s : Sha.St) (hs : s.ok) (b : ByteArray) (hbl : b.size ≠ 64) (w : World) :
    Calls Tryd.prog 30 #[.agg #[.int .i64 s.a, .int .i64 s.b, .int .i64 s.c, .int .i64 s.d, .int .i64 s.e, .int .i64 s.f, .int .i64 s.g, .int .i64 s.h], .string b] w fun e w' => e = .returned (.tuple #[.agg #[.int .i64 0, .int .i64 0, .int .i64 0, .int .i64 0, .int .i64 0, .int .i64 0, .int .i64 0, .int .i64 0], .int .i64 10]) ∧ Below w.heap.size w w' := by
  have Hs := Lib.hid hs
  have Hbl := Lib.hid hbl
  clear hs hbl
  go_enter Tryd.func30, Tryd.ntmps30
  go_wp2_with fail
  refine (ref_words (s.a : Int) s.b s.c s.d s.e s.f s.g s.h true (words_true Hs.out) _).mono ?_
  rintro e w1 ⟨rfl, hw⟩
  have hc1 : w1.heap[w.heap.size + 1]? = some (.cells #[.int .i64 0, .int .i64 0, .int .i64 0, .int .i64 0, .int .i64 0, .int .i64 0, .int .i64 0, .int .i64 0] 23 (0, 0)) := by
    rw [hw]; exact alloc_heap_old _ (alloc_heap_at _ _ _ (by simp))
  have hd1 : w1.heap[w.heap.size]? = some (.cells #[.int .i64 s.a, .int .i64 s.b, .int .i64 s.c, .int .i64 s.d, .int .i64 s.e, .int .i64 s.f, .int .i64 s.g, .int .i64 s.h] 23 (0, 0)) := by
    rw [hw]; exact alloc_heap_old _ (alloc_heap_old _ (alloc_heap_at _ _ _ rfl))
  have hb1 : Below w.heap.size w w1 := by
    rw [hw]; exact ((((Below.refl _ w).alloc (Nat.le_refl _) _).alloc (by simp) _).alloc (by simp; omega) _)
  have hz : w.heap.size + 1 < w1.heap.size := lt_of_heap hc1
  clear hw
  have HC1 := Lib.hid hc1
  have HB1 := Lib.hid hb1
  clear hb1 hd1
  go_wp2_with fail
  refine (ref_schedule_bad b Hbl.out _).mono ?_
  rintro e w2 ⟨rfl, rfl⟩
  have y0 : w1.cell? ⟨w.heap.size + 1, 0, none⟩ = some (.int .i64 0) := cell_of hc1 0
  have y1 : w1.cell? ⟨w.heap.size + 1, 1, none⟩ = some (.int .i64 0) := cell_of hc1 1
  have y2 : w1.cell? ⟨w.heap.size + 1, 2, none⟩ = some (.int .i64 0) := cell_of hc1 2
  have y3 : w1.cell? ⟨w.heap.size + 1, 3, none⟩ = some (.int .i64 0) := cell_of hc1 3
  have y4 : w1.cell? ⟨w.heap.size + 1, 4, none⟩ = some (.int .i64 0) := cell_of hc1 4
  have y5 : w1.cell? ⟨w.heap.size + 1, 5, none⟩ = some (.int .i64 0) := cell_of hc1 5
  have y6 : w1.cell? ⟨w.heap.size + 1, 6, none⟩ = some (.int .i64 0) := cell_of hc1 6
  have y7 : w1.cell? ⟨w.heap.size + 1, 7, none⟩ = some (.int .i64 0) := cell_of hc1 7
  have f0 : w1.frozen? ⟨w.heap.size + 1, 0, none⟩ = false := frozen_of hc1 0
  have f1 : w1.frozen? ⟨w.heap.size + 1, 1, none⟩ = false := frozen_of hc1 1
  have f2 : w1.frozen? ⟨w.heap.size + 1, 2, none⟩ = false := frozen_of hc1 2
  have f3 : w1.frozen? ⟨w.heap.size + 1, 3, none⟩ = false := frozen_of hc1 3
  have f4 : w1.frozen? ⟨w.heap.size + 1, 4, none⟩ = false := frozen_of hc1 4
  have f5 : w1.frozen? ⟨w.heap.size + 1, 5, none⟩ = false := frozen_of hc1 5
  have f6 : w1.frozen? ⟨w.heap.size + 1, 6, none⟩ = false := frozen_of hc1 6
  have f7 : w1.frozen? ⟨w.heap.size + 1, 7, none⟩ = false := frozen_of hc1 7
  clear hc1
  go_wp2_with fail
  have hX := store8 w1 (w.heap.size + 1) 23 _ _ _ _ _ _ _ _ (.int .i64 0) (.int .i64 0) (.int .i64 0) (.int .i64 0) (.int .i64 0) (.int .i64 0) (.int .i64 0) (.int .i64 0) HC1.out
  have hXb := below8 w1 (w.heap.size + 1) (.int .i64 0) (.int .i64 0) (.int .i64 0) (.int .i64 0) (.int .i64 0) (.int .i64 0) (.int .i64 0) (.int .i64 0) HB1.out (by omega)
  exact bodyPost_ret (results30 _ _ (w.heap.size + 1) _ _ _ _ _ _ _ _ _ rfl rfl hX) rfl ⟨rfl, hXb⟩
set_option maxRecDepth 100000 in
set_option maxHeartbeats 4000000 in
theorem ref_compress_ok (s : Sha.St) (hs : s.ok) (b : ByteArray) (hbl : b.size = 64) (w : World) (hk : ∀ i, i < 64 → w.cell? ⟨1, i, none⟩ = some (.int .i64 (Sha.K.getD i 0 : Nat))) (h1 : 1 < w.heap.size) :
    Calls Tryd.prog 30 #[.agg #[.int .i64 s.a, .int .i64 s.b, .int .i64 s.c, .int .i64 s.d, .int .i64 s.e, .int .i64 s.f, .int .i64 s.g, .int .i64 s.h], .string b] w fun e w' => e = .returned (.tuple #[.agg (row64 (s.compress (byteAt b))), .int .i64 0]) ∧ Below w.heap.size w w' := by
  have Hs := Lib.hid hs
  have Hbl := Lib.hid hbl
  have HK := Lib.hid hk
  clear hs hbl hk
  go_enter Tryd.func30, Tryd.ntmps30
  go_wp2_with fail
  refine (ref_words (s.a : Int) s.b s.c s.d s.e s.f s.g s.h true (words_true Hs.out) _).mono ?_
  rintro e w1 ⟨rfl, hw⟩
  have hc1 : w1.heap[w.heap.size + 1]? = some (.cells #[.int .i64 0, .int .i64 0, .int .i64 0, .int .i64 0, .int .i64 0, .int .i64 0, .int .i64 0, .int .i64 0] 23 (0, 0)) := by
    rw [hw]; exact alloc_heap_old _ (alloc_heap_at _ _ _ (by simp))
  have hd1 : w1.heap[w.heap.size]? = some (.cells #[.int .i64 s.a, .int .i64 s.b, .int .i64 s.c, .int .i64 s.d, .int .i64 s.e, .int .i64 s.f, .int .i64 s.g, .int .i64 s.h] 23 (0, 0)) := by
    rw [hw]; exact alloc_heap_old _ (alloc_heap_old _ (alloc_heap_at _ _ _ rfl))
  have hb1 : Below w.heap.size w w1 := by
    rw [hw]; exact ((((Below.refl _ w).alloc (Nat.le_refl _) _).alloc (by simp) _).alloc (by simp; omega) _)
  have hz : w.heap.size + 1 < w1.heap.size := lt_of_heap hc1
  clear hw
  have HC1 := Lib.hid hc1
  have HD1 := Lib.hid hd1
  have HB1 := Lib.hid hb1
  clear hb1 hd1 hc1
  go_wp2_with fail
  refine (ref_schedule_ok b Hbl.out _).mono ?_
  rintro e w2 ⟨g, cap, rfl, hg1, hg2, hcg, hb2⟩
  have hd2 := (hb2.block _ (lt_of_heap HD1.out)).trans HD1.out
  have hc2 := (hb2.block _ (lt_of_heap HC1.out)).trans HC1.out
  have hw2 : Below w.heap.size w w2 := HB1.out.trans (hb2.mono HB1.out.size)
  have hz2 : w.heap.size + 1 < w2.heap.size := lt_of_heap hc2
  have HCG := Lib.hid hcg
  have y0 : w2.cell? ⟨w.heap.size, 0, none⟩ = some (.int .i64 s.a) := cell_of hd2 0
  have y1 : w2.cell? ⟨w.heap.size, 1, none⟩ = some (.int .i64 s.b) := cell_of hd2 1
  have y2 : w2.cell? ⟨w.heap.size, 2, none⟩ = some (.int .i64 s.c) := cell_of hd2 2
  have y3 : w2.cell? ⟨w.heap.size, 3, none⟩ = some (.int .i64 s.d) := cell_of hd2 3
  have y4 : w2.cell? ⟨w.heap.size, 4, none⟩ = some (.int .i64 s.e) := cell_of hd2 4
  have y5 : w2.cell? ⟨w.heap.size, 5, none⟩ = some (.int .i64 s.f) := cell_of hd2 5
  have y6 : w2.cell? ⟨w.heap.size, 6, none⟩ = some (.int .i64 s.g) := cell_of hd2 6
  have y7 : w2.cell? ⟨w.heap.size, 7, none⟩ = some (.int .i64 s.h) := cell_of hd2 7
  have HD2 := Lib.hid hd2
  have HC2 := Lib.hid hc2
  have HW2 := Lib.hid hw2
  clear hd2 hc2 hw2 hcg hb2 HD1 HC1 HB1 hz
  go_wp2_with fail
  clear y0 y1 y2 y3 y4 y5 y6 y7
  go_loopw [9] (fun i W => ∃ t : Nat, t ≤ 64 ∧ i = .int .i64 t ∧ W.heap[w2.heap.size]? = some (.cells (row64 (s.rounds (byteAt b) t)) 23 (0, 0)) ∧ Below w2.heap.size w2 W) (fun i _ => 64 - (intOf i).toNat)
  case atStart => exact ⟨0, by omega, rfl, alloc_heap_at _ _ _ rfl, (Below.refl _ _).alloc (Nat.le_refl _) _⟩
  case round =>
    obtain ⟨t, ht, rfl, hrow, hbw⟩ := hrel
    by_cases hlt : t < 64
    · have c0 : wr.cell? ⟨g, t, none⟩ = some (.int .i64 (Sha.word (byteAt b) t : Nat)) := (hbw.cell (p := ⟨g, t, none⟩) hg2).trans (HCG.out t hlt)
      have hk1 : wr.cell? ⟨1, t, none⟩ = some (.int .i64 (Sha.K.getD t 0 : Nat)) := (hbw.cell (p := ⟨1, t, none⟩) (show 1 < w2.heap.size by omega)).trans ((HW2.out.cell (p := ⟨1, t, none⟩) h1).trans (HK.out t hlt))
      have hwl := Sha.word_lt (byteAt b) (byteAt_lt b) t
      have hTok := Sha.St.rounds_ok Hs.out (byteAt b) t
      have hT1 : s.rounds (byteAt b) (t + 1) = (s.rounds (byteAt b) t).round (Sha.K.getD t 0) (Sha.word (byteAt b) t) := rfl
      obtain ⟨T, hT⟩ : ∃ T, s.rounds (byteAt b) t = T := ⟨_, rfl⟩
      rw [hT] at hrow hTok hT1
      obtain ⟨U, hU⟩ : ∃ U, T.round (Sha.K.getD t 0) (Sha.word (byteAt b) t) = U := ⟨_, rfl⟩
      have hcall := ref_round_ok T hTok t (Sha.word (byteAt b) t) hlt hwl
      rw [hU] at hT1 hcall
      generalize Sha.word (byteAt b) t = x at c0 hcall hU
      have i0 : (0 : Int) ≤ (t : Int) := by omega
      have i1 : (t : Int) < 64 := by omega
      have hbt : w2.heap.size < wr.heap.size := lt_of_heap hrow
      have h1w : 1 < wr.heap.size := by omega
      unfold row64 at hrow
      have y0 : wr.cell? ⟨w2.heap.size, 0, none⟩ = some (.int .i64 T.a) := cell_of hrow 0
      have y1 : wr.cell? ⟨w2.heap.size, 1, none⟩ = some (.int .i64 T.b) := cell_of hrow 1
      have y2 : wr.cell? ⟨w2.heap.size, 2, none⟩ = some (.int .i64 T.c) := cell_of hrow 2
      have y3 : wr.cell? ⟨w2.heap.size, 3, none⟩ = some (.int .i64 T.d) := cell_of hrow 3
      have y4 : wr.cell? ⟨w2.heap.size, 4, none⟩ = some (.int .i64 T.e) := cell_of hrow 4
      have y5 : wr.cell? ⟨w2.heap.size, 5, none⟩ = some (.int .i64 T.f) := cell_of hrow 5
      have y6 : wr.cell? ⟨w2.heap.size, 6, none⟩ = some (.int .i64 T.g) := cell_of hrow 6
      have y7 : wr.cell? ⟨w2.heap.size, 7, none⟩ = some (.int .i64 T.h) := cell_of hrow 7
      have HT1 := Lib.hid hT1
      have hcall2 : Calls Tryd.prog 28 #[.agg #[.int .i64 T.a, .int .i64 T.b, .int .i64 T.c, .int .i64 T.d, .int .i64 T.e, .int .i64 T.f, .int .i64 T.g, .int .i64 T.h], .int .i64 (t : Int), .int .i64 (x : Int)] wr.drew fun e w9 => e = .returned (.tuple #[.agg #[.int .i64 U.a, .int .i64 U.b, .int .i64 U.c, .int .i64 U.d, .int .i64 U.e, .int .i64 U.f, .int .i64 U.g, .int .i64 U.h], .int .i64 0]) ∧ w9.heap[w2.heap.size]? = some (.cells #[.int .i64 T.a, .int .i64 T.b, .int .i64 T.c, .int .i64 T.d, .int .i64 T.e, .int .i64 T.f, .int .i64 T.g, .int .i64 T.h] 23 (0, 0)) ∧ Below w2.heap.size w2 w9 :=
        (hcall wr.drew hk1 h1w).mono fun e w9 ⟨he, hb9⟩ => ⟨he, (hb9.block w2.heap.size hbt).trans hrow, hbw.drew.trans (hb9.mono (Nat.le_of_lt hbt))⟩
      have HCL := Lib.hid hcall2
      clear hk1 hT1 hrow hbw hcall hcall2 hT hU hTok hwl
      go_wp2_with fail
      go_region_with (go_at_call 28; refine HCL.out.mono ?_; rintro e w9 ⟨rfl, hc9, hb9⟩; have g0 := cell_of hc9 0; have f0 := frozen_of hc9 0; have g1 := cell_of hc9 1; have f1 := frozen_of hc9 1; have g2 := cell_of hc9 2; have f2 := frozen_of hc9 2; have g3 := cell_of hc9 3; have f3 := frozen_of hc9 3; have g4 := cell_of hc9 4; have f4 := frozen_of hc9 4; have g5 := cell_of hc9 5; have f5 := frozen_of hc9 5; have g6 := cell_of hc9 6; have f6 := frozen_of hc9 6; have g7 := cell_of hc9 7; have f7 := frozen_of hc9 7; have HC9 := Lib.hid hc9; have HB9 := Lib.hid hb9; clear hc9 hb9)
      all_goals
        clear g0 f0 g1 f1 g2 f2 g3 f3 g4 f4 g5 f5 g6 f6 g7 f7
        go_wp2_with fail
        go_roundw
        case rel =>
          refine ⟨t + 1, by omega, by go_num, ?_, ?_⟩
          · rw [HT1.out]
            exact store8 w9 w2.heap.size 23 _ _ _ _ _ _ _ _ (.int .i64 U.a) (.int .i64 U.b) (.int .i64 U.c) (.int .i64 U.d) (.int .i64 U.e) (.int .i64 U.f) (.int .i64 U.g) (.int .i64 U.h) HC9.out
          · exact below8 w9 w2.heap.size (.int .i64 U.a) (.int .i64 U.b) (.int .i64 U.c) (.int .i64 U.d) (.int .i64 U.e) (.int .i64 U.f) (.int .i64 U.g) (.int .i64 U.h) HB9.out (Nat.le_refl _)
        case measure => simp [intOf]; omega
    · obtain rfl : t = 64 := by omega
      obtain ⟨R, hR⟩ : ∃ R, s.rounds (byteAt b) 64 = R := ⟨_, rfl⟩
      have hRok := Sha.St.rounds_ok Hs.out (byteAt b) 64
      rw [hR] at hrow hRok
      have HR := Lib.hid hR
      have HROW := Lib.hid hrow
      have HBW := Lib.hid hbw
      have HRok := Lib.hid hRok
      clear hR hrow hbw hRok
      have e64 : ((64 : Nat) : Int) = 64 := rfl
      rw [e64]
      clear e64
      go_wp2_with fail
      go_loopw [10] (fun i W => ∃ t : Nat, t ≤ 8 ∧ i = .int .i64 t ∧ W.heap[w2.heap.size]? = some (.cells (mixRow (words8 R) (words8 s) t) 23 (0, 0)) ∧ Below w2.heap.size w2 W) (fun i _ => 8 - (intOf i).toNat)
      case atStart => exact ⟨0, by omega, rfl, by rw [mixRow_zero]; exact HROW.out, HBW.out⟩
      case round =>
        clear HROW HBW
        obtain ⟨t, ht, rfl, hrow, hbw⟩ := hrel
        by_cases hlt : t < 8
        · have c1 := cell_of hrow t
          rw [mixRow_get _ _ _ _ hlt, if_neg (Nat.lt_irrefl t)] at c1
          have hdw := (hbw.block w.heap.size (by omega)).trans HD2.out
          have c2 := cell_of hdw t
          rw [show (#[.int .i64 s.a, .int .i64 s.b, .int .i64 s.c, .int .i64 s.d, .int .i64 s.e, .int .i64 s.f, .int .i64 s.g, .int .i64 s.h] : Array Value) = row64 s from rfl, row64_get s t hlt] at c2
          have fz := frozen_of hrow t
          have hset := mixRow_set (words8 R) (words8 s) t hlt
          have l1 := words8_lt HRok.out t hlt
          have l2 := words8_lt Hs.out t hlt
          generalize (words8 R).getD t 0 = r at c1 hset l1
          generalize (words8 s).getD t 0 = q at c2 hset l2
          obtain ⟨u, hu⟩ : ∃ u, r + q = u := ⟨_, rfl⟩
          obtain ⟨V, hV⟩ : ∃ V, u % 4294967296 = V := ⟨_, rfl⟩
          rw [hu, hV] at hset
          have i0 : (0 : Int) ≤ (t : Int) := by omega
          have i1 : (t : Int) < 8 := by omega
          have f1 : IntKind.i64.wrap ((r : Int) + (q : Int)) = (u : Int) := by rw [IntWalk.i64_in _ (by omega)]; omega
          have f2 : (u : Int).tmod 4294967296 = (V : Int) := by rw [← hV, Int.tmod_eq_emod_of_nonneg (by omega)]; simp
          have f3 : (u : Int) % 4294967296 = (V : Int) := by rw [← hV]; simp
          have HROW := Lib.hid hrow
          have HBW := Lib.hid hbw
          have HSET := Lib.hid hset
          clear hrow hbw hset hu hV hdw
          go_wp2_with fail
          go_region
          all_goals
            clear f1 f2 f3 c1 c2 fz
            go_wp2_with fail
            go_roundw
            case rel =>
              refine ⟨t + 1, by omega, by go_num, ?_, ?_⟩
              · have := setCell_heap HROW.out t (.int .i64 (V : Int))
                rw [HSET.out] at this
                exact this
              · exact HBW.out.drew.setCell (Nat.le_refl _) _
            case measure => simp [intOf]; omega
        · obtain rfl : t = 8 := by omega
          rw [mixRow_eight] at hrow
          obtain ⟨A, hA⟩ : ∃ A, R.add s = A := ⟨_, rfl⟩
          rw [hA] at hrow
          have hcomp : s.compress (byteAt b) = A := by rw [← hA, ← HR.out]; rfl
          unfold row64 at hrow
          have hcw := (hbw.block (w.heap.size + 1) hz2).trans HC2.out
          have hbwl := hbw.size
          have hbb := HW2.out.trans (hbw.mono HW2.out.size)
          have y0 : wr.cell? ⟨w2.heap.size, 0, none⟩ = some (.int .i64 A.a) := cell_of hrow 0
          have y1 : wr.cell? ⟨w2.heap.size, 1, none⟩ = some (.int .i64 A.b) := cell_of hrow 1
          have y2 : wr.cell? ⟨w2.heap.size, 2, none⟩ = some (.int .i64 A.c) := cell_of hrow 2
          have y3 : wr.cell? ⟨w2.heap.size, 3, none⟩ = some (.int .i64 A.d) := cell_of hrow 3
          have y4 : wr.cell? ⟨w2.heap.size, 4, none⟩ = some (.int .i64 A.e) := cell_of hrow 4
          have y5 : wr.cell? ⟨w2.heap.size, 5, none⟩ = some (.int .i64 A.f) := cell_of hrow 5
          have y6 : wr.cell? ⟨w2.heap.size, 6, none⟩ = some (.int .i64 A.g) := cell_of hrow 6
          have y7 : wr.cell? ⟨w2.heap.size, 7, none⟩ = some (.int .i64 A.h) := cell_of hrow 7
          have z0 : wr.cell? ⟨w.heap.size + 1, 0, none⟩ = some (.int .i64 0) := cell_of hcw 0
          have z1 : wr.cell? ⟨w.heap.size + 1, 1, none⟩ = some (.int .i64 0) := cell_of hcw 1
          have z2 : wr.cell? ⟨w.heap.size + 1, 2, none⟩ = some (.int .i64 0) := cell_of hcw 2
          have z3 : wr.cell? ⟨w.heap.size + 1, 3, none⟩ = some (.int .i64 0) := cell_of hcw 3
          have z4 : wr.cell? ⟨w.heap.size + 1, 4, none⟩ = some (.int .i64 0) := cell_of hcw 4
          have z5 : wr.cell? ⟨w.heap.size + 1, 5, none⟩ = some (.int .i64 0) := cell_of hcw 5
          have z6 : wr.cell? ⟨w.heap.size + 1, 6, none⟩ = some (.int .i64 0) := cell_of hcw 6
          have z7 : wr.cell? ⟨w.heap.size + 1, 7, none⟩ = some (.int .i64 0) := cell_of hcw 7
          have f0 : wr.frozen? ⟨w.heap.size + 1, 0, none⟩ = false := frozen_of hcw 0
          have f1 : wr.frozen? ⟨w.heap.size + 1, 1, none⟩ = false := frozen_of hcw 1
          have f2 : wr.frozen? ⟨w.heap.size + 1, 2, none⟩ = false := frozen_of hcw 2
          have f3 : wr.frozen? ⟨w.heap.size + 1, 3, none⟩ = false := frozen_of hcw 3
          have f4 : wr.frozen? ⟨w.heap.size + 1, 4, none⟩ = false := frozen_of hcw 4
          have f5 : wr.frozen? ⟨w.heap.size + 1, 5, none⟩ = false := frozen_of hcw 5
          have f6 : wr.frozen? ⟨w.heap.size + 1, 6, none⟩ = false := frozen_of hcw 6
          have f7 : wr.frozen? ⟨w.heap.size + 1, 7, none⟩ = false := frozen_of hcw 7
          have HCW := Lib.hid hcw
          have HBB := Lib.hid hbb
          have HCOMP := Lib.hid hcomp
          clear hrow hbw hcw hbb hcomp hA
          go_wp2_with fail
          have hX := store8 wr (w.heap.size + 1) 23 _ _ _ _ _ _ _ _ (.int .i64 A.a) (.int .i64 A.b) (.int .i64 A.c) (.int .i64 A.d) (.int .i64 A.e) (.int .i64 A.f) (.int .i64 A.g) (.int .i64 A.h) HCW.out
          have hXb := below8 wr (w.heap.size + 1) (.int .i64 A.a) (.int .i64 A.b) (.int .i64 A.c) (.int .i64 A.d) (.int .i64 A.e) (.int .i64 A.f) (.int .i64 A.g) (.int .i64 A.h) HBB.out (by omega)
          exact bodyPost_ret (results30 _ _ (w.heap.size + 1) _ _ _ _ _ _ _ _ _ rfl rfl hX) rfl ⟨by rw [HCOMP.out]; rfl, hXb⟩
end Go.Proofs.YtfafidholldjlaaDoor
