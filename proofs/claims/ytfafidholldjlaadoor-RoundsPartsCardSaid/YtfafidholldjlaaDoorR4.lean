/- The document's answer for the rounds: Round. -/
import Derived.Test.YtfafidholldjlaaDoorR3
import Derived.Test.YtfafidholldjlaaDoorA11
set_option linter.unusedVariables false
set_option linter.unusedSimpArgs false
namespace Go.Proofs.YtfafidholldjlaaDoor
open Go.RowKit
theorem results28 (tmps : Array Value) (w : World) (b : Nat) (v0 v1 v2 v3 v4 v5 v6 v7 e : Value) (h4 : tmps.getD 6 undef = .pointer (some ⟨b, 0, none⟩)) (h5 : tmps.getD 7 undef = e) (hb : w.heap[b]? = some (.cells #[v0, v1, v2, v3, v4, v5, v6, v7] 23 (0, 0))) :
    (results Tryd.f28 tmps).run Tryd.prog w = .ok (.tuple #[.agg #[v0, v1, v2, v3, v4, v5, v6, v7], e]) w := by
  have c0 : w.cell? ⟨b, 0, none⟩ = some v0 := cell_of hb 0
  have c1 : w.cell? ⟨b, 1, none⟩ = some v1 := cell_of hb 1
  have c2 : w.cell? ⟨b, 2, none⟩ = some v2 := cell_of hb 2
  have c3 : w.cell? ⟨b, 3, none⟩ = some v3 := cell_of hb 3
  have c4 : w.cell? ⟨b, 4, none⟩ = some v4 := cell_of hb 4
  have c5 : w.cell? ⟨b, 5, none⟩ = some v5 := cell_of hb 5
  have c6 : w.cell? ⟨b, 6, none⟩ = some v6 := cell_of hb 6
  have c7 : w.cell? ⟨b, 7, none⟩ = some v7 := cell_of hb 7
  simp only [Array.getD_eq_getD_getElem?] at h4 h5
  simp [results, Tryd.results28, go_sem, h4, h5, c0, c1, c2, c3, c4, c5, c6, c7]
theorem words8_st {s0 s1 s2 s3 s4 s5 s6 s7 : Int} (h : Words8 s0 s1 s2 s3 s4 s5 s6 s7) : ∃ s : Sha.St, s.ok ∧ s0 = s.a ∧ s1 = s.b ∧ s2 = s.c ∧ s3 = s.d ∧ s4 = s.e ∧ s5 = s.f ∧ s6 = s.g ∧ s7 = s.h := by
  obtain ⟨h0, h1, h2, h3, h4, h5, h6, h7⟩ := h
  refine ⟨⟨s0.toNat, s1.toNat, s2.toNat, s3.toNat, s4.toNat, s5.toNat, s6.toNat, s7.toNat⟩, ⟨?_, ?_, ?_, ?_, ?_, ?_, ?_, ?_⟩, ?_, ?_, ?_, ?_, ?_, ?_, ?_, ?_⟩ <;> (simp only []; omega)
theorem words_true {s : Sha.St} (hs : s.ok) : true = true ↔ ∀ j, j < 8 → inWord (([(s.a : Int), s.b, s.c, s.d, s.e, s.f, s.g, s.h] : List Int).getD j 0) := by
  obtain ⟨l0, l1, l2, l3, l4, l5, l6, l7⟩ := hs
  refine ⟨fun _ j hj => ?_, fun _ => rfl⟩
  unfold inWord
  match j, hj with
  | 0, _ => simp; omega
  | 1, _ => simp; omega
  | 2, _ => simp; omega
  | 3, _ => simp; omega
  | 4, _ => simp; omega
  | 5, _ => simp; omega
  | 6, _ => simp; omega
  | 7, _ => simp; omega
theorem words_false {s0 s1 s2 s3 s4 s5 s6 s7 : Int} (hb : ¬ Words8 s0 s1 s2 s3 s4 s5 s6 s7) : false = true ↔ ∀ j, j < 8 → inWord (([s0, s1, s2, s3, s4, s5, s6, s7] : List Int).getD j 0) := by
  refine ⟨fun h => (Bool.false_ne_true h).elim, fun h => (hb ?_).elim⟩
  have h0 := h 0 (by decide)
  have h1 := h 1 (by decide)
  have h2 := h 2 (by decide)
  have h3 := h 3 (by decide)
  have h4 := h 4 (by decide)
  have h5 := h 5 (by decide)
  have h6 := h 6 (by decide)
  have h7 := h 7 (by decide)
  exact ⟨h0, h1, h2, h3, h4, h5, h6, h7⟩
theorem K_all : Sha.K.all (· < 4294967296) = true := by decide
theorem K_lt (i : Nat) (hi : i < 64) : Sha.K.getD i 0 < 4294967296 := by
  have h := List.all_eq_true.1 K_all (Sha.K[i]'hi) (List.getElem_mem _)
  rw [List.getD_eq_getElem?_getD, List.getElem?_eq_getElem (show i < Sha.K.length from hi)]
  exact of_decide_eq_true h
theorem ch64 (e f g : Nat) (he : e < 4294967296) (hf : f < 4294967296) (hg : g < 4294967296) :
    bits BinOp.xor IntKind.i64 (bits BinOp.and IntKind.i64 e f) (bits BinOp.and IntKind.i64 (4294967295 - (e : Int)) g) = ((Sha.ch e f g : Nat) : Int) := by
  have h1 : e &&& f < 4294967296 := Nat.and_lt_two_pow (n := 32) _ hf
  have h2 : (4294967295 - e) &&& g < 4294967296 := Nat.and_lt_two_pow (n := 32) _ hg
  have e1 : (4294967295 - (e : Int)) = ((4294967295 - e : Nat) : Int) := by omega
  rw [e1, i64_and_word _ _ he hf, i64_and_word _ _ (by omega) hg, i64_xor_word _ _ h1 h2]
  rfl
theorem ch_lt (e f g : Nat) (hf : f < 4294967296) (hg : g < 4294967296) : Sha.ch e f g < 4294967296 := word_xor2 _ _ (Nat.and_lt_two_pow (n := 32) _ hf) (Nat.and_lt_two_pow (n := 32) _ hg)
theorem ref_xor_ints (a b c : Nat) (ai bi ci : Int) (h1 : ai = (a : Int)) (h2 : bi = (b : Int)) (h : ci = (c : Int)) (ha : a < 4294967296) (hb : b < 4294967296) (hc : c < 4294967296) (w : World) :
    Calls Tryd.prog 63 #[.int .i64 ai, .int .i64 bi, .int .i64 ci] w fun e w' => e = .returned (.int .i64 (((a ^^^ b) ^^^ c : Nat) : Int)) ∧ w = w' := by
  subst h h1 h2
  exact ref_xor a b c ha hb hc w
set_option maxRecDepth 100000 in
theorem ref_round_word (s0 s1 s2 s3 s4 s5 s6 s7 i x : Int) (hbad : ¬ Words8 s0 s1 s2 s3 s4 s5 s6 s7) (w : World) :
    Calls Tryd.prog 28 #[.agg #[.int .i64 s0, .int .i64 s1, .int .i64 s2, .int .i64 s3, .int .i64 s4, .int .i64 s5, .int .i64 s6, .int .i64 s7], .int .i64 i, .int .i64 x] w fun e w' => e = .returned (.tuple #[.agg #[.int .i64 0, .int .i64 0, .int .i64 0, .int .i64 0, .int .i64 0, .int .i64 0, .int .i64 0, .int .i64 0], .int .i64 11]) ∧ Below w.heap.size w w' := by
  have Hb := Lib.hid hbad
  clear hbad
  go_enter Tryd.func28, Tryd.ntmps28
  go_wp2_with fail
  refine (ref_words s0 s1 s2 s3 s4 s5 s6 s7 false (words_false Hb.out) _).mono ?_
  rintro e w1 ⟨rfl, hw⟩
  have hc1 : w1.heap[w.heap.size + 1]? = some (.cells #[.int .i64 0, .int .i64 0, .int .i64 0, .int .i64 0, .int .i64 0, .int .i64 0, .int .i64 0, .int .i64 0] 23 (0, 0)) := by
    rw [hw]; exact alloc_heap_old _ (alloc_heap_at _ _ _ (by simp))
  have hb1 : Below w.heap.size w w1 := by
    rw [hw]; exact ((((Below.refl _ w).alloc (Nat.le_refl _) _).alloc (by simp) _).alloc (by simp; omega) _)
  have hz : w.heap.size + 1 < w1.heap.size := lt_of_heap hc1
  clear hw
  have y0 : w1.cell? ⟨w.heap.size + 1, 0, none⟩ = some (.int .i64 0) := cell_of hc1 0
  have y1 : w1.cell? ⟨w.heap.size + 1, 1, none⟩ = some (.int .i64 0) := cell_of hc1 1
  have y2 : w1.cell? ⟨w.heap.size + 1, 2, none⟩ = some (.int .i64 0) := cell_of hc1 2
  have y3 : w1.cell? ⟨w.heap.size + 1, 3, none⟩ = some (.int .i64 0) := cell_of hc1 3
  have y4 : w1.cell? ⟨w.heap.size + 1, 4, none⟩ = some (.int .i64 0) := cell_of hc1 4
  have y5 : w1.cell? ⟨w.heap.size + 1, 5, none⟩ = some (.int .i64 0) := cell_of hc1 5
  have y6 : w1.cell? ⟨w.heap.size + 1, 6, none⟩ = some (.int .i64 0) := cell_of hc1 6
  have y7 : w1.cell? ⟨w.heap.size + 1, 7, none⟩ = some (.int .i64 0) := cell_of hc1 7
  have f0 : w1.frozen? ⟨w.heap.size + 1, 0, none⟩ = false := frozen_of hc1 0
  have f1 : w1.frozen? ⟨w.heap.size + 1, 1, none⟩ = false := frozen_of hc1 1
  have f2 : w1.frozen? ⟨w.heap.size + 1, 2, none⟩ = false := frozen_of hc1 2
  have f3 : w1.frozen? ⟨w.heap.size + 1, 3, none⟩ = false := frozen_of hc1 3
  have f4 : w1.frozen? ⟨w.heap.size + 1, 4, none⟩ = false := frozen_of hc1 4
  have f5 : w1.frozen? ⟨w.heap.size + 1, 5, none⟩ = false := frozen_of hc1 5
  have f6 : w1.frozen? ⟨w.heap.size + 1, 6, none⟩ = false := frozen_of hc1 6
  have f7 : w1.frozen? ⟨w.heap.size + 1, 7, none⟩ = false := frozen_of hc1 7
  have HC1 := Lib.hid hc1
  have HB1 := Lib.hid hb1
  clear hc1 hb1
  go_wp2_with fail
  have hX := store8 w1 (w.heap.size + 1) 23 _ _ _ _ _ _ _ _ (.int .i64 0) (.int .i64 0) (.int .i64 0) (.int .i64 0) (.int .i64 0) (.int .i64 0) (.int .i64 0) (.int .i64 0) HC1.out
  have hXb := below8 w1 (w.heap.size + 1) (.int .i64 0) (.int .i64 0) (.int .i64 0) (.int .i64 0) (.int .i64 0) (.int .i64 0) (.int .i64 0) (.int .i64 0) HB1.out (by omega)
  exact bodyPost_ret (results28 _ _ (w.heap.size + 1) _ _ _ _ _ _ _ _ _ rfl rfl hX) rfl ⟨rfl, hXb⟩
set_option maxRecDepth 100000 in
theorem ref_round_a (s : Sha.St) (hs : s.ok) (i x : Int) (c0 : i < 0) (w : World) :
    Calls Tryd.prog 28 #[.agg #[.int .i64 s.a, .int .i64 s.b, .int .i64 s.c, .int .i64 s.d, .int .i64 s.e, .int .i64 s.f, .int .i64 s.g, .int .i64 s.h], .int .i64 i, .int .i64 x] w fun e w' => e = .returned (.tuple #[.agg #[.int .i64 0, .int .i64 0, .int .i64 0, .int .i64 0, .int .i64 0, .int .i64 0, .int .i64 0, .int .i64 0], .int .i64 11]) ∧ Below w.heap.size w w' := by
  have Hs := Lib.hid hs
  clear hs
  go_enter Tryd.func28, Tryd.ntmps28
  go_wp2_with fail
  refine (ref_words (s.a : Int) s.b s.c s.d s.e s.f s.g s.h true (words_true Hs.out) _).mono ?_
  rintro e w1 ⟨rfl, hw⟩
  have hc1 : w1.heap[w.heap.size + 1]? = some (.cells #[.int .i64 0, .int .i64 0, .int .i64 0, .int .i64 0, .int .i64 0, .int .i64 0, .int .i64 0, .int .i64 0] 23 (0, 0)) := by
    rw [hw]; exact alloc_heap_old _ (alloc_heap_at _ _ _ (by simp))
  have hb1 : Below w.heap.size w w1 := by
    rw [hw]; exact ((((Below.refl _ w).alloc (Nat.le_refl _) _).alloc (by simp) _).alloc (by simp; omega) _)
  have hz : w.heap.size + 1 < w1.heap.size := lt_of_heap hc1
  clear hw
  have y0 : w1.cell? ⟨w.heap.size + 1, 0, none⟩ = some (.int .i64 0) := cell_of hc1 0
  have y1 : w1.cell? ⟨w.heap.size + 1, 1, none⟩ = some (.int .i64 0) := cell_of hc1 1
  have y2 : w1.cell? ⟨w.heap.size + 1, 2, none⟩ = some (.int .i64 0) := cell_of hc1 2
  have y3 : w1.cell? ⟨w.heap.size + 1, 3, none⟩ = some (.int .i64 0) := cell_of hc1 3
  have y4 : w1.cell? ⟨w.heap.size + 1, 4, none⟩ = some (.int .i64 0) := cell_of hc1 4
  have y5 : w1.cell? ⟨w.heap.size + 1, 5, none⟩ = some (.int .i64 0) := cell_of hc1 5
  have y6 : w1.cell? ⟨w.heap.size + 1, 6, none⟩ = some (.int .i64 0) := cell_of hc1 6
  have y7 : w1.cell? ⟨w.heap.size + 1, 7, none⟩ = some (.int .i64 0) := cell_of hc1 7
  have f0 : w1.frozen? ⟨w.heap.size + 1, 0, none⟩ = false := frozen_of hc1 0
  have f1 : w1.frozen? ⟨w.heap.size + 1, 1, none⟩ = false := frozen_of hc1 1
  have f2 : w1.frozen? ⟨w.heap.size + 1, 2, none⟩ = false := frozen_of hc1 2
  have f3 : w1.frozen? ⟨w.heap.size + 1, 3, none⟩ = false := frozen_of hc1 3
  have f4 : w1.frozen? ⟨w.heap.size + 1, 4, none⟩ = false := frozen_of hc1 4
  have f5 : w1.frozen? ⟨w.heap.size + 1, 5, none⟩ = false := frozen_of hc1 5
  have f6 : w1.frozen? ⟨w.heap.size + 1, 6, none⟩ = false := frozen_of hc1 6
  have f7 : w1.frozen? ⟨w.heap.size + 1, 7, none⟩ = false := frozen_of hc1 7
  have HC1 := Lib.hid hc1
  have HB1 := Lib.hid hb1
  clear hc1 hb1
  go_wp2_with fail
  have hX := store8 w1 (w.heap.size + 1) 23 _ _ _ _ _ _ _ _ (.int .i64 0) (.int .i64 0) (.int .i64 0) (.int .i64 0) (.int .i64 0) (.int .i64 0) (.int .i64 0) (.int .i64 0) HC1.out
  have hXb := below8 w1 (w.heap.size + 1) (.int .i64 0) (.int .i64 0) (.int .i64 0) (.int .i64 0) (.int .i64 0) (.int .i64 0) (.int .i64 0) (.int .i64 0) HB1.out (by omega)
  exact bodyPost_ret (results28 _ _ (w.heap.size + 1) _ _ _ _ _ _ _ _ _ rfl rfl hX) rfl ⟨rfl, hXb⟩
set_option maxRecDepth 100000 in
theorem ref_round_b (s : Sha.St) (hs : s.ok) (i x : Int) (c0 : 0 ≤ i) (c1 : 63 < i) (w : World) :
    Calls Tryd.prog 28 #[.agg #[.int .i64 s.a, .int .i64 s.b, .int .i64 s.c, .int .i64 s.d, .int .i64 s.e, .int .i64 s.f, .int .i64 s.g, .int .i64 s.h], .int .i64 i, .int .i64 x] w fun e w' => e = .returned (.tuple #[.agg #[.int .i64 0, .int .i64 0, .int .i64 0, .int .i64 0, .int .i64 0, .int .i64 0, .int .i64 0, .int .i64 0], .int .i64 11]) ∧ Below w.heap.size w w' := by
  have Hs := Lib.hid hs
  clear hs
  go_enter Tryd.func28, Tryd.ntmps28
  go_wp2_with fail
  refine (ref_words (s.a : Int) s.b s.c s.d s.e s.f s.g s.h true (words_true Hs.out) _).mono ?_
  rintro e w1 ⟨rfl, hw⟩
  have hc1 : w1.heap[w.heap.size + 1]? = some (.cells #[.int .i64 0, .int .i64 0, .int .i64 0, .int .i64 0, .int .i64 0, .int .i64 0, .int .i64 0, .int .i64 0] 23 (0, 0)) := by
    rw [hw]; exact alloc_heap_old _ (alloc_heap_at _ _ _ (by simp))
  have hb1 : Below w.heap.size w w1 := by
    rw [hw]; exact ((((Below.refl _ w).alloc (Nat.le_refl _) _).alloc (by simp) _).alloc (by simp; omega) _)
  have hz : w.heap.size + 1 < w1.heap.size := lt_of_heap hc1
  clear hw
  have y0 : w1.cell? ⟨w.heap.size + 1, 0, none⟩ = some (.int .i64 0) := cell_of hc1 0
  have y1 : w1.cell? ⟨w.heap.size + 1, 1, none⟩ = some (.int .i64 0) := cell_of hc1 1
  have y2 : w1.cell? ⟨w.heap.size + 1, 2, none⟩ = some (.int .i64 0) := cell_of hc1 2
  have y3 : w1.cell? ⟨w.heap.size + 1, 3, none⟩ = some (.int .i64 0) := cell_of hc1 3
  have y4 : w1.cell? ⟨w.heap.size + 1, 4, none⟩ = some (.int .i64 0) := cell_of hc1 4
  have y5 : w1.cell? ⟨w.heap.size + 1, 5, none⟩ = some (.int .i64 0) := cell_of hc1 5
  have y6 : w1.cell? ⟨w.heap.size + 1, 6, none⟩ = some (.int .i64 0) := cell_of hc1 6
  have y7 : w1.cell? ⟨w.heap.size + 1, 7, none⟩ = some (.int .i64 0) := cell_of hc1 7
  have f0 : w1.frozen? ⟨w.heap.size + 1, 0, none⟩ = false := frozen_of hc1 0
  have f1 : w1.frozen? ⟨w.heap.size + 1, 1, none⟩ = false := frozen_of hc1 1
  have f2 : w1.frozen? ⟨w.heap.size + 1, 2, none⟩ = false := frozen_of hc1 2
  have f3 : w1.frozen? ⟨w.heap.size + 1, 3, none⟩ = false := frozen_of hc1 3
  have f4 : w1.frozen? ⟨w.heap.size + 1, 4, none⟩ = false := frozen_of hc1 4
  have f5 : w1.frozen? ⟨w.heap.size + 1, 5, none⟩ = false := frozen_of hc1 5
  have f6 : w1.frozen? ⟨w.heap.size + 1, 6, none⟩ = false := frozen_of hc1 6
  have f7 : w1.frozen? ⟨w.heap.size + 1, 7, none⟩ = false := frozen_of hc1 7
  have HC1 := Lib.hid hc1
  have HB1 := Lib.hid hb1
  clear hc1 hb1
  go_wp2_with fail
  have hX := store8 w1 (w.heap.size + 1) 23 _ _ _ _ _ _ _ _ (.int .i64 0) (.int .i64 0) (.int .i64 0) (.int .i64 0) (.int .i64 0) (.int .i64 0) (.int .i64 0) (.int .i64 0) HC1.out
  have hXb := below8 w1 (w.heap.size + 1) (.int .i64 0) (.int .i64 0) (.int .i64 0) (.int .i64 0) (.int .i64 0) (.int .i64 0) (.int .i64 0) (.int .i64 0) HB1.out (by omega)
  exact bodyPost_ret (results28 _ _ (w.heap.size + 1) _ _ _ _ _ _ _ _ _ rfl rfl hX) rfl ⟨rfl, hXb⟩
set_option maxRecDepth 100000 in
theorem ref_round_c (s : Sha.St) (hs : s.ok) (i x : Int) (c0 : 0 ≤ i) (c1 : i ≤ 63) (c2 : x < 0) (w : World) :
    Calls Tryd.prog 28 #[.agg #[.int .i64 s.a, .int .i64 s.b, .int .i64 s.c, .int .i64 s.d, .int .i64 s.e, .int .i64 s.f, .int .i64 s.g, .int .i64 s.h], .int .i64 i, .int .i64 x] w fun e w' => e = .returned (.tuple #[.agg #[.int .i64 0, .int .i64 0, .int .i64 0, .int .i64 0, .int .i64 0, .int .i64 0, .int .i64 0, .int .i64 0], .int .i64 11]) ∧ Below w.heap.size w w' := by
  have Hs := Lib.hid hs
  clear hs
  go_enter Tryd.func28, Tryd.ntmps28
  go_wp2_with fail
  refine (ref_words (s.a : Int) s.b s.c s.d s.e s.f s.g s.h true (words_true Hs.out) _).mono ?_
  rintro e w1 ⟨rfl, hw⟩
  have hc1 : w1.heap[w.heap.size + 1]? = some (.cells #[.int .i64 0, .int .i64 0, .int .i64 0, .int .i64 0, .int .i64 0, .int .i64 0, .int .i64 0, .int .i64 0] 23 (0, 0)) := by
    rw [hw]; exact alloc_heap_old _ (alloc_heap_at _ _ _ (by simp))
  have hb1 : Below w.heap.size w w1 := by
    rw [hw]; exact ((((Below.refl _ w).alloc (Nat.le_refl _) _).alloc (by simp) _).alloc (by simp; omega) _)
  have hz : w.heap.size + 1 < w1.heap.size := lt_of_heap hc1
  clear hw
  have y0 : w1.cell? ⟨w.heap.size + 1, 0, none⟩ = some (.int .i64 0) := cell_of hc1 0
  have y1 : w1.cell? ⟨w.heap.size + 1, 1, none⟩ = some (.int .i64 0) := cell_of hc1 1
  have y2 : w1.cell? ⟨w.heap.size + 1, 2, none⟩ = some (.int .i64 0) := cell_of hc1 2
  have y3 : w1.cell? ⟨w.heap.size + 1, 3, none⟩ = some (.int .i64 0) := cell_of hc1 3
  have y4 : w1.cell? ⟨w.heap.size + 1, 4, none⟩ = some (.int .i64 0) := cell_of hc1 4
  have y5 : w1.cell? ⟨w.heap.size + 1, 5, none⟩ = some (.int .i64 0) := cell_of hc1 5
  have y6 : w1.cell? ⟨w.heap.size + 1, 6, none⟩ = some (.int .i64 0) := cell_of hc1 6
  have y7 : w1.cell? ⟨w.heap.size + 1, 7, none⟩ = some (.int .i64 0) := cell_of hc1 7
  have f0 : w1.frozen? ⟨w.heap.size + 1, 0, none⟩ = false := frozen_of hc1 0
  have f1 : w1.frozen? ⟨w.heap.size + 1, 1, none⟩ = false := frozen_of hc1 1
  have f2 : w1.frozen? ⟨w.heap.size + 1, 2, none⟩ = false := frozen_of hc1 2
  have f3 : w1.frozen? ⟨w.heap.size + 1, 3, none⟩ = false := frozen_of hc1 3
  have f4 : w1.frozen? ⟨w.heap.size + 1, 4, none⟩ = false := frozen_of hc1 4
  have f5 : w1.frozen? ⟨w.heap.size + 1, 5, none⟩ = false := frozen_of hc1 5
  have f6 : w1.frozen? ⟨w.heap.size + 1, 6, none⟩ = false := frozen_of hc1 6
  have f7 : w1.frozen? ⟨w.heap.size + 1, 7, none⟩ = false := frozen_of hc1 7
  have HC1 := Lib.hid hc1
  have HB1 := Lib.hid hb1
  clear hc1 hb1
  go_wp2_with fail
  have hX := store8 w1 (w.heap.size + 1) 23 _ _ _ _ _ _ _ _ (.int .i64 0) (.int .i64 0) (.int .i64 0) (.int .i64 0) (.int .i64 0) (.int .i64 0) (.int .i64 0) (.int .i64 0) HC1.out
  have hXb := below8 w1 (w.heap.size + 1) (.int .i64 0) (.int .i64 0) (.int .i64 0) (.int .i64 0) (.int .i64 0) (.int .i64 0) (.int .i64 0) (.int .i64 0) HB1.out (by omega)
  exact bodyPost_ret (results28 _ _ (w.heap.size + 1) _ _ _ _ _ _ _ _ _ rfl rfl hX) rfl ⟨rfl, hXb⟩
set_option maxRecDepth 100000 in
theorem ref_round_d (s : Sha.St) (hs : s.ok) (i x : Int) (c0 : 0 ≤ i) (c1 : i ≤ 63) (c2 : 0 ≤ x) (c3 : 4294967295 < x) (w : World) :
    Calls Tryd.prog 28 #[.agg #[.int .i64 s.a, .int .i64 s.b, .int .i64 s.c, .int .i64 s.d, .int .i64 s.e, .int .i64 s.f, .int .i64 s.g, .int .i64 s.h], .int .i64 i, .int .i64 x] w fun e w' => e = .returned (.tuple #[.agg #[.int .i64 0, .int .i64 0, .int .i64 0, .int .i64 0, .int .i64 0, .int .i64 0, .int .i64 0, .int .i64 0], .int .i64 11]) ∧ Below w.heap.size w w' := by
  have Hs := Lib.hid hs
  clear hs
  go_enter Tryd.func28, Tryd.ntmps28
  go_wp2_with fail
  refine (ref_words (s.a : Int) s.b s.c s.d s.e s.f s.g s.h true (words_true Hs.out) _).mono ?_
  rintro e w1 ⟨rfl, hw⟩
  have hc1 : w1.heap[w.heap.size + 1]? = some (.cells #[.int .i64 0, .int .i64 0, .int .i64 0, .int .i64 0, .int .i64 0, .int .i64 0, .int .i64 0, .int .i64 0] 23 (0, 0)) := by
    rw [hw]; exact alloc_heap_old _ (alloc_heap_at _ _ _ (by simp))
  have hb1 : Below w.heap.size w w1 := by
    rw [hw]; exact ((((Below.refl _ w).alloc (Nat.le_refl _) _).alloc (by simp) _).alloc (by simp; omega) _)
  have hz : w.heap.size + 1 < w1.heap.size := lt_of_heap hc1
  clear hw
  have y0 : w1.cell? ⟨w.heap.size + 1, 0, none⟩ = some (.int .i64 0) := cell_of hc1 0
  have y1 : w1.cell? ⟨w.heap.size + 1, 1, none⟩ = some (.int .i64 0) := cell_of hc1 1
  have y2 : w1.cell? ⟨w.heap.size + 1, 2, none⟩ = some (.int .i64 0) := cell_of hc1 2
  have y3 : w1.cell? ⟨w.heap.size + 1, 3, none⟩ = some (.int .i64 0) := cell_of hc1 3
  have y4 : w1.cell? ⟨w.heap.size + 1, 4, none⟩ = some (.int .i64 0) := cell_of hc1 4
  have y5 : w1.cell? ⟨w.heap.size + 1, 5, none⟩ = some (.int .i64 0) := cell_of hc1 5
  have y6 : w1.cell? ⟨w.heap.size + 1, 6, none⟩ = some (.int .i64 0) := cell_of hc1 6
  have y7 : w1.cell? ⟨w.heap.size + 1, 7, none⟩ = some (.int .i64 0) := cell_of hc1 7
  have f0 : w1.frozen? ⟨w.heap.size + 1, 0, none⟩ = false := frozen_of hc1 0
  have f1 : w1.frozen? ⟨w.heap.size + 1, 1, none⟩ = false := frozen_of hc1 1
  have f2 : w1.frozen? ⟨w.heap.size + 1, 2, none⟩ = false := frozen_of hc1 2
  have f3 : w1.frozen? ⟨w.heap.size + 1, 3, none⟩ = false := frozen_of hc1 3
  have f4 : w1.frozen? ⟨w.heap.size + 1, 4, none⟩ = false := frozen_of hc1 4
  have f5 : w1.frozen? ⟨w.heap.size + 1, 5, none⟩ = false := frozen_of hc1 5
  have f6 : w1.frozen? ⟨w.heap.size + 1, 6, none⟩ = false := frozen_of hc1 6
  have f7 : w1.frozen? ⟨w.heap.size + 1, 7, none⟩ = false := frozen_of hc1 7
  have HC1 := Lib.hid hc1
  have HB1 := Lib.hid hb1
  clear hc1 hb1
  go_wp2_with fail
  have hX := store8 w1 (w.heap.size + 1) 23 _ _ _ _ _ _ _ _ (.int .i64 0) (.int .i64 0) (.int .i64 0) (.int .i64 0) (.int .i64 0) (.int .i64 0) (.int .i64 0) (.int .i64 0) HC1.out
  have hXb := below8 w1 (w.heap.size + 1) (.int .i64 0) (.int .i64 0) (.int .i64 0) (.int .i64 0) (.int .i64 0) (.int .i64 0) (.int .i64 0) (.int .i64 0) HB1.out (by omega)
  exact bodyPost_ret (results28 _ _ (w.heap.size + 1) _ _ _ _ _ _ _ _ _ rfl rfl hX) rfl ⟨rfl, hXb⟩
set_option maxRecDepth 100000 in
set_option maxHeartbeats 2000000 in
theorem ref_round_ok (s : Sha.St) (hs : s.ok) (i x : Nat) (hi : i < 64) (hx : x < 4294967296) (w : World) (hk : w.cell? ⟨1, i, none⟩ = some (.int .i64 (Sha.K.getD i 0 : Nat))) (h1 : 1 < w.heap.size) :
    Calls Tryd.prog 28 #[.agg #[.int .i64 s.a, .int .i64 s.b, .int .i64 s.c, .int .i64 s.d, .int .i64 s.e, .int .i64 s.f, .int .i64 s.g, .int .i64 s.h], .int .i64 (i : Int), .int .i64 (x : Int)] w fun e w' => e = .returned (.tuple #[.agg (row64 (s.round (Sha.K.getD i 0) x)), .int .i64 0]) ∧ Below w.heap.size w w' := by
  have Hs := Lib.hid hs
  obtain ⟨l0, l1, l2, l3, l4, l5, l6, l7⟩ := hs
  have i0 : (0 : Int) ≤ (i : Int) := by omega
  have i1 : (i : Int) ≤ 63 := by omega
  have i2 : (i : Int) < 64 := by omega
  have x0 : (0 : Int) ≤ (x : Int) := by omega
  have x1 : (x : Int) ≤ 4294967295 := by omega
  have lk : Sha.K.getD i 0 < 4294967296 := K_lt i hi
  obtain ⟨k, hkk⟩ : ∃ k, Sha.K.getD i 0 = k := ⟨_, rfl⟩
  rw [hkk] at hk lk ⊢
  have Hi := Lib.hid hi
  have hab := Lib.hid (i64_and_word s.a s.b l0 l1)
  have hac := Lib.hid (i64_and_word s.a s.c l0 l2)
  have hbc := Lib.hid (i64_and_word s.b s.c l1 l2)
  have hch := Lib.hid (ch64 s.e s.f s.g l4 l5 l6)
  have lab : s.a &&& s.b < 4294967296 := Nat.and_lt_two_pow (n := 32) _ l1
  have lac : s.a &&& s.c < 4294967296 := Nat.and_lt_two_pow (n := 32) _ l2
  have lbc : s.b &&& s.c < 4294967296 := Nat.and_lt_two_pow (n := 32) _ l2
  clear hi hkk
  go_enter Tryd.func28, Tryd.ntmps28
  go_wp2_with fail
  refine (ref_words (s.a : Int) s.b s.c s.d s.e s.f s.g s.h true (words_true Hs.out) _).mono ?_
  rintro e w1 ⟨rfl, hw⟩
  have hc1 : w1.heap[w.heap.size + 1]? = some (.cells #[.int .i64 0, .int .i64 0, .int .i64 0, .int .i64 0, .int .i64 0, .int .i64 0, .int .i64 0, .int .i64 0] 23 (0, 0)) := by
    rw [hw]; exact alloc_heap_old _ (alloc_heap_at _ _ _ (by simp))
  have hd1 : w1.heap[w.heap.size]? = some (.cells #[.int .i64 s.a, .int .i64 s.b, .int .i64 s.c, .int .i64 s.d, .int .i64 s.e, .int .i64 s.f, .int .i64 s.g, .int .i64 s.h] 23 (0, 0)) := by
    rw [hw]; exact alloc_heap_old _ (alloc_heap_old _ (alloc_heap_at _ _ _ rfl))
  have hb1 : Below w.heap.size w w1 := by
    rw [hw]; exact ((((Below.refl _ w).alloc (Nat.le_refl _) _).alloc (by simp) _).alloc (by simp; omega) _)
  have hz : w.heap.size + 1 < w1.heap.size := lt_of_heap hc1
  have ck : w1.cell? ⟨1, i, none⟩ = some (.int .i64 (k : Int)) := (hb1.cell (p := ⟨1, i, none⟩) h1).trans hk
  clear hw hk
  have y0 : w1.cell? ⟨w.heap.size, 0, none⟩ = some (.int .i64 s.a) := cell_of hd1 0
  have y1 : w1.cell? ⟨w.heap.size, 1, none⟩ = some (.int .i64 s.b) := cell_of hd1 1
  have y2 : w1.cell? ⟨w.heap.size, 2, none⟩ = some (.int .i64 s.c) := cell_of hd1 2
  have y3 : w1.cell? ⟨w.heap.size, 3, none⟩ = some (.int .i64 s.d) := cell_of hd1 3
  have y4 : w1.cell? ⟨w.heap.size, 4, none⟩ = some (.int .i64 s.e) := cell_of hd1 4
  have y5 : w1.cell? ⟨w.heap.size, 5, none⟩ = some (.int .i64 s.f) := cell_of hd1 5
  have y6 : w1.cell? ⟨w.heap.size, 6, none⟩ = some (.int .i64 s.g) := cell_of hd1 6
  have y7 : w1.cell? ⟨w.heap.size, 7, none⟩ = some (.int .i64 s.h) := cell_of hd1 7
  have HC1 := Lib.hid hc1
  have HD1 := Lib.hid hd1
  have HB1 := Lib.hid hb1
  clear hc1 hb1 hd1
  go_wp2_with fail
  refine (ref_xor_ints (s.a &&& s.b) (s.a &&& s.c) (s.b &&& s.c) _ _ _ hab.out hac.out hbc.out lab lac lbc _).mono ?_
  rintro e w2 ⟨rfl, rfl⟩
  rw [hch.out]
  have hm : ((s.a &&& s.b) ^^^ (s.a &&& s.c)) ^^^ (s.b &&& s.c) = Sha.maj s.a s.b s.c := rfl
  rw [hm]
  obtain ⟨M, hM⟩ : ∃ M, Sha.maj s.a s.b s.c = M := ⟨_, rfl⟩
  obtain ⟨D, hD⟩ : ∃ D, Sha.ch s.e s.f s.g = D := ⟨_, rfl⟩
  have lM : M < 4294967296 := by rw [← hM, ← hm]; exact word_xor2 _ _ (word_xor2 _ _ lab lac) lbc
  have lD : D < 4294967296 := by rw [← hD]; exact ch_lt _ _ _ l5 l6
  rw [hM, hD]
  have HM := Lib.hid hM
  have HD := Lib.hid hD
  clear hM hD hm lab lac lbc hab hac hbc hch
  go_upto_region 7 with (fail)
  obtain ⟨X1, hX1⟩ : ∃ X, (Sha.rr s.e 6 ^^^ Sha.rr s.e 11) ^^^ Sha.rr s.e 25 = X := ⟨_, rfl⟩
  have r6 := Sha.rr_lt (k := 6) l4 (by decide) (by decide)
  have r11 := Sha.rr_lt (k := 11) l4 (by decide) (by decide)
  have r25 := Sha.rr_lt (k := 25) l4 (by decide) (by decide)
  have lX1 : X1 < 4294967296 := by rw [← hX1]; exact word_xor2 _ _ (word_xor2 _ _ r6 r11) r25
  obtain ⟨u1, hu1⟩ : ∃ y, s.h + X1 = y := ⟨_, rfl⟩
  obtain ⟨u2, hu2⟩ : ∃ y, u1 + D = y := ⟨_, rfl⟩
  obtain ⟨u3, hu3⟩ : ∃ y, u2 + k = y := ⟨_, rfl⟩
  obtain ⟨u4, hu4⟩ : ∃ y, u3 + x = y := ⟨_, rfl⟩
  obtain ⟨T1, hT1⟩ : ∃ y, Sha.t1 s k x = y := ⟨_, rfl⟩
  have hT1v : T1 = u4 % 4294967296 := by rw [← hT1, ← hu4, ← hu3, ← hu2, ← hu1, ← hX1, ← HD.out]; unfold Sha.t1; rw [turned3]
  have lT1 : T1 < 4294967296 := by rw [hT1v]; exact Nat.mod_lt _ (by decide)
  have HT1 := Lib.hid hT1
  have f1 : IntKind.i64.wrap ((s.h : Int) + (X1 : Int)) = (u1 : Int) := by rw [IntWalk.i64_in _ (by omega)]; omega
  have f2 : IntKind.i64.wrap ((u1 : Int) + (D : Int)) = (u2 : Int) := by rw [IntWalk.i64_in _ (by omega)]; omega
  have f3 : IntKind.i64.wrap ((u2 : Int) + (k : Int)) = (u3 : Int) := by rw [IntWalk.i64_in _ (by omega)]; omega
  have f4 : IntKind.i64.wrap ((u3 : Int) + (x : Int)) = (u4 : Int) := by rw [IntWalk.i64_in _ (by omega)]; omega
  have f5 : (u4 : Int).tmod 4294967296 = (T1 : Int) := by rw [hT1v, Int.tmod_eq_emod_of_nonneg (by omega)]; simp
  have f6 : (u4 : Int) % 4294967296 = (T1 : Int) := by rw [hT1v]; simp
  have HX1 := Lib.hid hX1
  clear hu1 hu2 hu3 hu4 hT1v hT1 hX1
  go_region_held3 (fun w' => w'.cell? ⟨w.heap.size, 7, none⟩ = some (.int .i64 s.h) ∧ w'.cell? ⟨1, i, none⟩ = some (.int .i64 (k : Int))) (go_keep) (first
    | (go_at_call 64; (with_reducible refine (ref_turn_lit s.e 6 6 rfl l4 (by decide) (by decide) _).mono ?_); rintro e w' ⟨rfl, m, rfl⟩)
    | (go_at_call 64; (with_reducible refine (ref_turn_lit s.e 11 11 rfl l4 (by decide) (by decide) _).mono ?_); rintro e w' ⟨rfl, m, rfl⟩)
    | (go_at_call 64; (with_reducible refine (ref_turn_lit s.e 25 25 rfl l4 (by decide) (by decide) _).mono ?_); rintro e w' ⟨rfl, m, rfl⟩)
    | (go_at_call 63; (with_reducible refine (ref_xor _ _ _ r6 r11 r25 _).mono ?_); rintro e w' ⟨rfl, rfl⟩; rw [HX1.out]))
  clear f1 f2 f3 f4 f5 f6 ck r6 r11 r25
  obtain ⟨X2, hX2⟩ : ∃ X, (Sha.rr s.a 2 ^^^ Sha.rr s.a 13) ^^^ Sha.rr s.a 22 = X := ⟨_, rfl⟩
  have r2 := Sha.rr_lt (k := 2) l0 (by decide) (by decide)
  have r13 := Sha.rr_lt (k := 13) l0 (by decide) (by decide)
  have r22 := Sha.rr_lt (k := 22) l0 (by decide) (by decide)
  have lX2 : X2 < 4294967296 := by rw [← hX2]; exact word_xor2 _ _ (word_xor2 _ _ r2 r13) r22
  have HX2 := Lib.hid hX2
  clear hX2
  go_wp2_with fail
  refine (ref_turn_lit s.a 2 2 rfl l0 (by decide) (by decide) _).mono ?_
  rintro e wa ⟨rfl, m2, rfl⟩
  go_wp2_with fail
  refine (ref_turn_lit s.a 13 13 rfl l0 (by decide) (by decide) _).mono ?_
  rintro e wa ⟨rfl, m3, rfl⟩
  go_wp2_with fail
  refine (ref_turn_lit s.a 22 22 rfl l0 (by decide) (by decide) _).mono ?_
  rintro e wa ⟨rfl, m4, rfl⟩
  go_wp2_with fail
  refine (ref_xor _ _ _ r2 r13 r22 _).mono ?_
  rintro e wa ⟨rfl, rfl⟩
  rw [HX2.out]
  clear r2 r13 r22 y0 y1 y2 y3 y4 y5 y6 y7
  go_upto_region 9 with (fail)
  have hT2 : ((((X2 : Int) + (M : Int)) % 4294967296)) = ((Sha.t2 s : Nat) : Int) := by
    unfold Sha.t2
    rw [turned3, HX2.out, HM.out]
    simp
  rw [hT2]
  obtain ⟨T2, hT2e⟩ : ∃ y, Sha.t2 s = y := ⟨_, rfl⟩
  have lT2 : T2 < 4294967296 := by rw [← hT2e]; exact Nat.mod_lt _ (by decide)
  rw [hT2e]
  have HT2 := Lib.hid hT2e
  clear hT2 hT2e
  generalize hXe : World.drewN _ _ = X
  have hF : Far NoneD w1 X := by rw [← hXe]; repeat (first | exact Far.refl _ _ | refine Far.drewN ?_ _ | refine Far.drew ?_)
  have hd := hF.heap HD1.out (fun h => h)
  have hc := hF.heap HC1.out (fun h => h)
  have hb := HB1.out.trans (hF.to_below HB1.out.size (fun _ _ h => h))
  clear hXe hF
  have y0 : X.cell? ⟨w.heap.size, 0, none⟩ = some (.int .i64 s.a) := cell_of hd 0
  have y1 : X.cell? ⟨w.heap.size, 1, none⟩ = some (.int .i64 s.b) := cell_of hd 1
  have y2 : X.cell? ⟨w.heap.size, 2, none⟩ = some (.int .i64 s.c) := cell_of hd 2
  have y3 : X.cell? ⟨w.heap.size, 3, none⟩ = some (.int .i64 s.d) := cell_of hd 3
  have y4 : X.cell? ⟨w.heap.size, 4, none⟩ = some (.int .i64 s.e) := cell_of hd 4
  have y5 : X.cell? ⟨w.heap.size, 5, none⟩ = some (.int .i64 s.f) := cell_of hd 5
  have y6 : X.cell? ⟨w.heap.size, 6, none⟩ = some (.int .i64 s.g) := cell_of hd 6
  have y7 : X.cell? ⟨w.heap.size, 7, none⟩ = some (.int .i64 s.h) := cell_of hd 7
  have z0 : X.cell? ⟨w.heap.size + 1, 0, none⟩ = some (.int .i64 0) := cell_of hc 0
  have z1 : X.cell? ⟨w.heap.size + 1, 1, none⟩ = some (.int .i64 0) := cell_of hc 1
  have z2 : X.cell? ⟨w.heap.size + 1, 2, none⟩ = some (.int .i64 0) := cell_of hc 2
  have z3 : X.cell? ⟨w.heap.size + 1, 3, none⟩ = some (.int .i64 0) := cell_of hc 3
  have z4 : X.cell? ⟨w.heap.size + 1, 4, none⟩ = some (.int .i64 0) := cell_of hc 4
  have z5 : X.cell? ⟨w.heap.size + 1, 5, none⟩ = some (.int .i64 0) := cell_of hc 5
  have z6 : X.cell? ⟨w.heap.size + 1, 6, none⟩ = some (.int .i64 0) := cell_of hc 6
  have z7 : X.cell? ⟨w.heap.size + 1, 7, none⟩ = some (.int .i64 0) := cell_of hc 7
  have f0 : X.frozen? ⟨w.heap.size + 1, 0, none⟩ = false := frozen_of hc 0
  have f1 : X.frozen? ⟨w.heap.size + 1, 1, none⟩ = false := frozen_of hc 1
  have f2 : X.frozen? ⟨w.heap.size + 1, 2, none⟩ = false := frozen_of hc 2
  have f3 : X.frozen? ⟨w.heap.size + 1, 3, none⟩ = false := frozen_of hc 3
  have f4 : X.frozen? ⟨w.heap.size + 1, 4, none⟩ = false := frozen_of hc 4
  have f5 : X.frozen? ⟨w.heap.size + 1, 5, none⟩ = false := frozen_of hc 5
  have f6 : X.frozen? ⟨w.heap.size + 1, 6, none⟩ = false := frozen_of hc 6
  have f7 : X.frozen? ⟨w.heap.size + 1, 7, none⟩ = false := frozen_of hc 7
  have HC := Lib.hid hc
  have HB := Lib.hid hb
  clear hd hc hb
  go_wp2_with fail
  have hX := store8 X (w.heap.size + 1) 23 _ _ _ _ _ _ _ _ (.int .i64 (((T1 : Int) + (T2 : Int)) % 4294967296)) (.int .i64 s.a) (.int .i64 s.b) (.int .i64 s.c) (.int .i64 (((s.d : Int) + (T1 : Int)) % 4294967296)) (.int .i64 s.e) (.int .i64 s.f) (.int .i64 s.g) HC.out
  have hXb := below8 X (w.heap.size + 1) (.int .i64 (((T1 : Int) + (T2 : Int)) % 4294967296)) (.int .i64 s.a) (.int .i64 s.b) (.int .i64 s.c) (.int .i64 (((s.d : Int) + (T1 : Int)) % 4294967296)) (.int .i64 s.e) (.int .i64 s.f) (.int .i64 s.g) HB.out (by omega)
  have hrow : row64 (s.round k x) = #[.int .i64 (((T1 : Int) + (T2 : Int)) % 4294967296), .int .i64 s.a, .int .i64 s.b, .int .i64 s.c, .int .i64 (((s.d : Int) + (T1 : Int)) % 4294967296), .int .i64 s.e, .int .i64 s.f, .int .i64 s.g] := by
    unfold row64 Sha.St.round
    rw [HT1.out, HT2.out]
    simp
  exact bodyPost_ret (results28 _ _ (w.heap.size + 1) _ _ _ _ _ _ _ _ _ rfl rfl hX) rfl ⟨by rw [hrow]; rfl, hXb⟩
theorem ref_round_bad (s0 s1 s2 s3 s4 s5 s6 s7 i x : Int) (hbad : ¬ (Words8 s0 s1 s2 s3 s4 s5 s6 s7 ∧ (0 ≤ i ∧ i ≤ 63) ∧ (0 ≤ x ∧ x ≤ 4294967295))) (w : World) :
    Calls Tryd.prog 28 #[.agg #[.int .i64 s0, .int .i64 s1, .int .i64 s2, .int .i64 s3, .int .i64 s4, .int .i64 s5, .int .i64 s6, .int .i64 s7], .int .i64 i, .int .i64 x] w fun e w' => e = .returned (.tuple #[.agg #[.int .i64 0, .int .i64 0, .int .i64 0, .int .i64 0, .int .i64 0, .int .i64 0, .int .i64 0, .int .i64 0], .int .i64 11]) ∧ Below w.heap.size w w' := by
  by_cases hW : Words8 s0 s1 s2 s3 s4 s5 s6 s7
  · obtain ⟨s, hs, rfl, rfl, rfl, rfl, rfl, rfl, rfl, rfl⟩ := words8_st hW
    by_cases c0 : i < 0
    · exact ref_round_a s hs i x c0 w
    by_cases c1 : 63 < i
    · exact ref_round_b s hs i x (by omega) c1 w
    by_cases c2 : x < 0
    · exact ref_round_c s hs i x (by omega) (by omega) c2 w
    by_cases c3 : 4294967295 < x
    · exact ref_round_d s hs i x (by omega) (by omega) (by omega) c3 w
    exact absurd ⟨hW, ⟨by omega, by omega⟩, ⟨by omega, by omega⟩⟩ hbad
  · exact ref_round_word s0 s1 s2 s3 s4 s5 s6 s7 i x hW w
end Go.Proofs.YtfafidholldjlaaDoor
