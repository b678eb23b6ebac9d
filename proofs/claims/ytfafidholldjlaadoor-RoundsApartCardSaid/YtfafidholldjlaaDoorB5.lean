/- The law RoundsApart: what a call of it answers, for every two states. -/
import Derived.Test.YtfafidholldjlaaDoorB1
import Derived.Test.YtfafidholldjlaaDoorC1
set_option linter.unusedVariables false
set_option linter.unusedSimpArgs false
namespace Go.Proofs.YtfafidholldjlaaDoor
open Go.RowKit
theorem toList_inj {a b : ByteArray} (h : a.toList = b.toList) : a = b := by
  rw [ByteArray.toList_eq, ByteArray.toList_eq] at h
  exact ByteArray.ext (by simpa using h)
theorem stBytes_size (s : Sha.St) : (⟨(stBytes s).toArray⟩ : ByteArray).size = 32 := by
  show (stBytes s).toArray.size = 32
  simp [stBytes, wordBytes]
theorem wordBytes_inj {x y : Nat} (hx : x < 4294967296) (hy : y < 4294967296) {r q : List UInt8} (h : wordBytes x ++ r = wordBytes y ++ q) : x = y ∧ r = q := by
  simp only [wordBytes, List.cons_append, List.nil_append, List.cons.injEq] at h
  obtain ⟨h0, h1, h2, h3, h4⟩ := h
  have e0 := congrArg UInt8.toNat h0
  have e1 := congrArg UInt8.toNat h1
  have e2 := congrArg UInt8.toNat h2
  have e3 := congrArg UInt8.toNat h3
  simp only [UInt8.toNat_ofNat'] at e0 e1 e2 e3
  exact ⟨by omega, h4⟩
theorem stBytes_inj {s t : Sha.St} (hs : s.ok) (ht : t.ok) (h : stBytes s = stBytes t) : s = t := by
  obtain ⟨a0, a1, a2, a3, a4, a5, a6, a7⟩ := hs
  obtain ⟨b0, b1, b2, b3, b4, b5, b6, b7⟩ := ht
  have h' : stBytes s ++ [] = stBytes t ++ [] := by rw [h]
  simp only [stBytes, List.append_assoc] at h'
  obtain ⟨e0, h'⟩ := wordBytes_inj a0 b0 h'
  obtain ⟨e1, h'⟩ := wordBytes_inj a1 b1 h'
  obtain ⟨e2, h'⟩ := wordBytes_inj a2 b2 h'
  obtain ⟨e3, h'⟩ := wordBytes_inj a3 b3 h'
  obtain ⟨e4, h'⟩ := wordBytes_inj a4 b4 h'
  obtain ⟨e5, h'⟩ := wordBytes_inj a5 b5 h'
  obtain ⟨e6, h'⟩ := wordBytes_inj a6 b6 h'
  obtain ⟨e7, h'⟩ := wordBytes_inj a7 b7 h'
  cases s
  cases t
  simp_all
theorem eq8_false {s t : Sha.St} (h : s ≠ t) : eq8 [(s.a : Int), (s.b : Int), (s.c : Int), (s.d : Int), (s.e : Int), (s.f : Int), (s.g : Int), (s.h : Int)] [(t.a : Int), (t.b : Int), (t.c : Int), (t.d : Int), (t.e : Int), (t.f : Int), (t.g : Int), (t.h : Int)] = false := by
  rw [Bool.eq_false_iff]
  intro e
  have := (eq8_iff _ _).1 e
  simp only [List.cons.injEq, Int.ofNat_inj, Int.natCast_inj, and_true] at this
  obtain ⟨e0, e1, e2, e3, e4, e5, e6, e7⟩ := this
  apply h
  cases s
  cases t
  simp_all
set_option maxRecDepth 100000 in
theorem apart_bad_bad (s0 s1 s2 s3 s4 s5 s6 s7 : Int) (hs : ¬ Words8 s0 s1 s2 s3 s4 s5 s6 s7) (t0 t1 t2 t3 t4 t5 t6 t7 : Int) (ht : ¬ Words8 t0 t1 t2 t3 t4 t5 t6 t7) {B : Nat} {aw ab : Addr} {w : World} (h : Glob B aw ab w) :
    Calls Tryd.prog 8 #[.agg #[.int .i64 s0, .int .i64 s1, .int .i64 s2, .int .i64 s3, .int .i64 s4, .int .i64 s5, .int .i64 s6, .int .i64 s7], .agg #[.int .i64 t0, .int .i64 t1, .int .i64 t2, .int .i64 t3, .int .i64 t4, .int .i64 t5, .int .i64 t6, .int .i64 t7]] w fun e w' => e = .returned (.bool true) ∧ Below w.heap.size w w' := by
  have H := Lib.hid h
  clear h
  have Hs := Lib.hid hs
  have Ht := Lib.hid ht
  clear hs ht
  go_enter Tryd.func8, Tryd.ntmps8
  go_wp2_with fail
  refine (shown_any (H.out.below (((Below.refl B w).alloc H.out.size _).alloc (by have := H.out.size; simp; omega) _))).mono ?_
  rintro e w1 ⟨rfl, hb1⟩
  have hc1 := (hb1.block w.heap.size (by simp; omega)).trans (alloc_heap_old (.cells #[.int .i64 t0, .int .i64 t1, .int .i64 t2, .int .i64 t3, .int .i64 t4, .int .i64 t5, .int .i64 t6, .int .i64 t7] 23) (alloc_heap_at w (.cells #[.int .i64 s0, .int .i64 s1, .int .i64 s2, .int .i64 s3, .int .i64 s4, .int .i64 s5, .int .i64 s6, .int .i64 s7] 23) _ rfl))
  have hd1 := (hb1.block (w.heap.size + 1) (by simp)).trans (alloc_heap_at (w.alloc (.cells #[.int .i64 s0, .int .i64 s1, .int .i64 s2, .int .i64 s3, .int .i64 s4, .int .i64 s5, .int .i64 s6, .int .i64 s7] 23)) (.cells #[.int .i64 t0, .int .i64 t1, .int .i64 t2, .int .i64 t3, .int .i64 t4, .int .i64 t5, .int .i64 t6, .int .i64 t7] 23) _ (by simp))
  have hw1 : Below w.heap.size w w1 := (((Below.refl _ w).alloc (Nat.le_refl _) _).alloc (by simp) _).trans (hb1.mono (by simp; omega))
  have y0 : w1.cell? ⟨w.heap.size, 0, none⟩ = some (.int .i64 s0) := cell_of hc1 0
  have y1 : w1.cell? ⟨w.heap.size, 1, none⟩ = some (.int .i64 s1) := cell_of hc1 1
  have y2 : w1.cell? ⟨w.heap.size, 2, none⟩ = some (.int .i64 s2) := cell_of hc1 2
  have y3 : w1.cell? ⟨w.heap.size, 3, none⟩ = some (.int .i64 s3) := cell_of hc1 3
  have y4 : w1.cell? ⟨w.heap.size, 4, none⟩ = some (.int .i64 s4) := cell_of hc1 4
  have y5 : w1.cell? ⟨w.heap.size, 5, none⟩ = some (.int .i64 s5) := cell_of hc1 5
  have y6 : w1.cell? ⟨w.heap.size, 6, none⟩ = some (.int .i64 s6) := cell_of hc1 6
  have y7 : w1.cell? ⟨w.heap.size, 7, none⟩ = some (.int .i64 s7) := cell_of hc1 7
  have HC1 := Lib.hid hc1
  have HD1 := Lib.hid hd1
  have HW1 := Lib.hid hw1
  clear hb1 hc1 hd1 hw1
  go_wp2_with fail
  refine (bytes_bad s0 s1 s2 s3 s4 s5 s6 s7 Hs.out (H.out.below (HW1.out.mono H.out.size))).mono ?_
  rintro e w2 ⟨rfl, hb2⟩
  have hw2 : Below w.heap.size w w2 := HW1.out.trans (hb2.mono HW1.out.size)
  have hc2 := (hb2.block _ (lt_of_heap HC1.out)).trans HC1.out
  have hd2 := (hb2.block _ (lt_of_heap HD1.out)).trans HD1.out
  clear y0 y1 y2 y3 y4 y5 y6 y7
  have y0 : w2.cell? ⟨w.heap.size + 1, 0, none⟩ = some (.int .i64 t0) := cell_of hd2 0
  have y1 : w2.cell? ⟨w.heap.size + 1, 1, none⟩ = some (.int .i64 t1) := cell_of hd2 1
  have y2 : w2.cell? ⟨w.heap.size + 1, 2, none⟩ = some (.int .i64 t2) := cell_of hd2 2
  have y3 : w2.cell? ⟨w.heap.size + 1, 3, none⟩ = some (.int .i64 t3) := cell_of hd2 3
  have y4 : w2.cell? ⟨w.heap.size + 1, 4, none⟩ = some (.int .i64 t4) := cell_of hd2 4
  have y5 : w2.cell? ⟨w.heap.size + 1, 5, none⟩ = some (.int .i64 t5) := cell_of hd2 5
  have y6 : w2.cell? ⟨w.heap.size + 1, 6, none⟩ = some (.int .i64 t6) := cell_of hd2 6
  have y7 : w2.cell? ⟨w.heap.size + 1, 7, none⟩ = some (.int .i64 t7) := cell_of hd2 7
  have HC2 := Lib.hid hc2
  have HD2 := Lib.hid hd2
  have HW2 := Lib.hid hw2
  clear hb2 hc2 hd2 hw2
  go_wp2_with fail
  refine (bytes_bad t0 t1 t2 t3 t4 t5 t6 t7 Ht.out (H.out.below (HW2.out.mono H.out.size))).mono ?_
  rintro e w3 ⟨rfl, hb3⟩
  have hw3 : Below w.heap.size w w3 := HW2.out.trans (hb3.mono HW2.out.size)
  have hc3 := (hb3.block _ (lt_of_heap HC2.out)).trans HC2.out
  have hd3 := (hb3.block _ (lt_of_heap HD2.out)).trans HD2.out
  clear y0 y1 y2 y3 y4 y5 y6 y7
  have y0 : w3.cell? ⟨w.heap.size, 0, none⟩ = some (.int .i64 s0) := cell_of hc3 0
  have y1 : w3.cell? ⟨w.heap.size, 1, none⟩ = some (.int .i64 s1) := cell_of hc3 1
  have y2 : w3.cell? ⟨w.heap.size, 2, none⟩ = some (.int .i64 s2) := cell_of hc3 2
  have y3 : w3.cell? ⟨w.heap.size, 3, none⟩ = some (.int .i64 s3) := cell_of hc3 3
  have y4 : w3.cell? ⟨w.heap.size, 4, none⟩ = some (.int .i64 s4) := cell_of hc3 4
  have y5 : w3.cell? ⟨w.heap.size, 5, none⟩ = some (.int .i64 s5) := cell_of hc3 5
  have y6 : w3.cell? ⟨w.heap.size, 6, none⟩ = some (.int .i64 s6) := cell_of hc3 6
  have y7 : w3.cell? ⟨w.heap.size, 7, none⟩ = some (.int .i64 s7) := cell_of hc3 7
  have x0 : w3.cell? ⟨w.heap.size + 1, 0, none⟩ = some (.int .i64 t0) := cell_of hd3 0
  have x1 : w3.cell? ⟨w.heap.size + 1, 1, none⟩ = some (.int .i64 t1) := cell_of hd3 1
  have x2 : w3.cell? ⟨w.heap.size + 1, 2, none⟩ = some (.int .i64 t2) := cell_of hd3 2
  have x3 : w3.cell? ⟨w.heap.size + 1, 3, none⟩ = some (.int .i64 t3) := cell_of hd3 3
  have x4 : w3.cell? ⟨w.heap.size + 1, 4, none⟩ = some (.int .i64 t4) := cell_of hd3 4
  have x5 : w3.cell? ⟨w.heap.size + 1, 5, none⟩ = some (.int .i64 t5) := cell_of hd3 5
  have x6 : w3.cell? ⟨w.heap.size + 1, 6, none⟩ = some (.int .i64 t6) := cell_of hd3 6
  have x7 : w3.cell? ⟨w.heap.size + 1, 7, none⟩ = some (.int .i64 t7) := cell_of hd3 7
  have HW3 := Lib.hid hw3
  clear hb3 hc3 hd3 hw3
  go_wp2_with fail
  exact bodyPost_ret (v := .bool true) (by simp [results, Tryd.results8, go_sem]) rfl ⟨rfl, HW3.out⟩
set_option maxRecDepth 100000 in
theorem apart_bad_ok (s0 s1 s2 s3 s4 s5 s6 s7 : Int) (hs : ¬ Words8 s0 s1 s2 s3 s4 s5 s6 s7) (t : Sha.St) (ht : t.ok) {B : Nat} {aw ab : Addr} {w : World} (h : Glob B aw ab w) :
    Calls Tryd.prog 8 #[.agg #[.int .i64 s0, .int .i64 s1, .int .i64 s2, .int .i64 s3, .int .i64 s4, .int .i64 s5, .int .i64 s6, .int .i64 s7], .agg #[.int .i64 t.a, .int .i64 t.b, .int .i64 t.c, .int .i64 t.d, .int .i64 t.e, .int .i64 t.f, .int .i64 t.g, .int .i64 t.h]] w fun e w' => e = .returned (.bool true) ∧ Below w.heap.size w w' := by
  have H := Lib.hid h
  clear h
  have Hs := Lib.hid hs
  have Ht := Lib.hid ht
  clear hs ht
  go_enter Tryd.func8, Tryd.ntmps8
  go_wp2_with fail
  refine (shown_any (H.out.below (((Below.refl B w).alloc H.out.size _).alloc (by have := H.out.size; simp; omega) _))).mono ?_
  rintro e w1 ⟨rfl, hb1⟩
  have hc1 := (hb1.block w.heap.size (by simp; omega)).trans (alloc_heap_old (.cells #[.int .i64 t.a, .int .i64 t.b, .int .i64 t.c, .int .i64 t.d, .int .i64 t.e, .int .i64 t.f, .int .i64 t.g, .int .i64 t.h] 23) (alloc_heap_at w (.cells #[.int .i64 s0, .int .i64 s1, .int .i64 s2, .int .i64 s3, .int .i64 s4, .int .i64 s5, .int .i64 s6, .int .i64 s7] 23) _ rfl))
  have hd1 := (hb1.block (w.heap.size + 1) (by simp)).trans (alloc_heap_at (w.alloc (.cells #[.int .i64 s0, .int .i64 s1, .int .i64 s2, .int .i64 s3, .int .i64 s4, .int .i64 s5, .int .i64 s6, .int .i64 s7] 23)) (.cells #[.int .i64 t.a, .int .i64 t.b, .int .i64 t.c, .int .i64 t.d, .int .i64 t.e, .int .i64 t.f, .int .i64 t.g, .int .i64 t.h] 23) _ (by simp))
  have hw1 : Below w.heap.size w w1 := (((Below.refl _ w).alloc (Nat.le_refl _) _).alloc (by simp) _).trans (hb1.mono (by simp; omega))
  have y0 : w1.cell? ⟨w.heap.size, 0, none⟩ = some (.int .i64 s0) := cell_of hc1 0
  have y1 : w1.cell? ⟨w.heap.size, 1, none⟩ = some (.int .i64 s1) := cell_of hc1 1
  have y2 : w1.cell? ⟨w.heap.size, 2, none⟩ = some (.int .i64 s2) := cell_of hc1 2
  have y3 : w1.cell? ⟨w.heap.size, 3, none⟩ = some (.int .i64 s3) := cell_of hc1 3
  have y4 : w1.cell? ⟨w.heap.size, 4, none⟩ = some (.int .i64 s4) := cell_of hc1 4
  have y5 : w1.cell? ⟨w.heap.size, 5, none⟩ = some (.int .i64 s5) := cell_of hc1 5
  have y6 : w1.cell? ⟨w.heap.size, 6, none⟩ = some (.int .i64 s6) := cell_of hc1 6
  have y7 : w1.cell? ⟨w.heap.size, 7, none⟩ = some (.int .i64 s7) := cell_of hc1 7
  have HC1 := Lib.hid hc1
  have HD1 := Lib.hid hd1
  have HW1 := Lib.hid hw1
  clear hb1 hc1 hd1 hw1
  go_wp2_with fail
  refine (bytes_bad s0 s1 s2 s3 s4 s5 s6 s7 Hs.out (H.out.below (HW1.out.mono H.out.size))).mono ?_
  rintro e w2 ⟨rfl, hb2⟩
  have hw2 : Below w.heap.size w w2 := HW1.out.trans (hb2.mono HW1.out.size)
  have hc2 := (hb2.block _ (lt_of_heap HC1.out)).trans HC1.out
  have hd2 := (hb2.block _ (lt_of_heap HD1.out)).trans HD1.out
  clear y0 y1 y2 y3 y4 y5 y6 y7
  have y0 : w2.cell? ⟨w.heap.size + 1, 0, none⟩ = some (.int .i64 t.a) := cell_of hd2 0
  have y1 : w2.cell? ⟨w.heap.size + 1, 1, none⟩ = some (.int .i64 t.b) := cell_of hd2 1
  have y2 : w2.cell? ⟨w.heap.size + 1, 2, none⟩ = some (.int .i64 t.c) := cell_of hd2 2
  have y3 : w2.cell? ⟨w.heap.size + 1, 3, none⟩ = some (.int .i64 t.d) := cell_of hd2 3
  have y4 : w2.cell? ⟨w.heap.size + 1, 4, none⟩ = some (.int .i64 t.e) := cell_of hd2 4
  have y5 : w2.cell? ⟨w.heap.size + 1, 5, none⟩ = some (.int .i64 t.f) := cell_of hd2 5
  have y6 : w2.cell? ⟨w.heap.size + 1, 6, none⟩ = some (.int .i64 t.g) := cell_of hd2 6
  have y7 : w2.cell? ⟨w.heap.size + 1, 7, none⟩ = some (.int .i64 t.h) := cell_of hd2 7
  have HC2 := Lib.hid hc2
  have HD2 := Lib.hid hd2
  have HW2 := Lib.hid hw2
  clear hb2 hc2 hd2 hw2
  go_wp2_with fail
  refine (bytes_ok t Ht.out (H.out.below (HW2.out.mono H.out.size))).mono ?_
  rintro e w3 ⟨rfl, hb3⟩
  have hw3 : Below w.heap.size w w3 := HW2.out.trans (hb3.mono HW2.out.size)
  have hc3 := (hb3.block _ (lt_of_heap HC2.out)).trans HC2.out
  have hd3 := (hb3.block _ (lt_of_heap HD2.out)).trans HD2.out
  clear y0 y1 y2 y3 y4 y5 y6 y7
  have y0 : w3.cell? ⟨w.heap.size, 0, none⟩ = some (.int .i64 s0) := cell_of hc3 0
  have y1 : w3.cell? ⟨w.heap.size, 1, none⟩ = some (.int .i64 s1) := cell_of hc3 1
  have y2 : w3.cell? ⟨w.heap.size, 2, none⟩ = some (.int .i64 s2) := cell_of hc3 2
  have y3 : w3.cell? ⟨w.heap.size, 3, none⟩ = some (.int .i64 s3) := cell_of hc3 3
  have y4 : w3.cell? ⟨w.heap.size, 4, none⟩ = some (.int .i64 s4) := cell_of hc3 4
  have y5 : w3.cell? ⟨w.heap.size, 5, none⟩ = some (.int .i64 s5) := cell_of hc3 5
  have y6 : w3.cell? ⟨w.heap.size, 6, none⟩ = some (.int .i64 s6) := cell_of hc3 6
  have y7 : w3.cell? ⟨w.heap.size, 7, none⟩ = some (.int .i64 s7) := cell_of hc3 7
  have x0 : w3.cell? ⟨w.heap.size + 1, 0, none⟩ = some (.int .i64 t.a) := cell_of hd3 0
  have x1 : w3.cell? ⟨w.heap.size + 1, 1, none⟩ = some (.int .i64 t.b) := cell_of hd3 1
  have x2 : w3.cell? ⟨w.heap.size + 1, 2, none⟩ = some (.int .i64 t.c) := cell_of hd3 2
  have x3 : w3.cell? ⟨w.heap.size + 1, 3, none⟩ = some (.int .i64 t.d) := cell_of hd3 3
  have x4 : w3.cell? ⟨w.heap.size + 1, 4, none⟩ = some (.int .i64 t.e) := cell_of hd3 4
  have x5 : w3.cell? ⟨w.heap.size + 1, 5, none⟩ = some (.int .i64 t.f) := cell_of hd3 5
  have x6 : w3.cell? ⟨w.heap.size + 1, 6, none⟩ = some (.int .i64 t.g) := cell_of hd3 6
  have x7 : w3.cell? ⟨w.heap.size + 1, 7, none⟩ = some (.int .i64 t.h) := cell_of hd3 7
  have HW3 := Lib.hid hw3
  clear hb3 hc3 hd3 hw3
  go_wp2_with fail
  exact bodyPost_ret (v := .bool true) (by simp [results, Tryd.results8, go_sem]) rfl ⟨rfl, HW3.out⟩
set_option maxRecDepth 100000 in
theorem apart_ok_bad (s : Sha.St) (hs : s.ok) (t0 t1 t2 t3 t4 t5 t6 t7 : Int) (ht : ¬ Words8 t0 t1 t2 t3 t4 t5 t6 t7) {B : Nat} {aw ab : Addr} {w : World} (h : Glob B aw ab w) :
    Calls Tryd.prog 8 #[.agg #[.int .i64 s.a, .int .i64 s.b, .int .i64 s.c, .int .i64 s.d, .int .i64 s.e, .int .i64 s.f, .int .i64 s.g, .int .i64 s.h], .agg #[.int .i64 t0, .int .i64 t1, .int .i64 t2, .int .i64 t3, .int .i64 t4, .int .i64 t5, .int .i64 t6, .int .i64 t7]] w fun e w' => e = .returned (.bool true) ∧ Below w.heap.size w w' := by
  have H := Lib.hid h
  clear h
  have Hs := Lib.hid hs
  have Ht := Lib.hid ht
  clear hs ht
  go_enter Tryd.func8, Tryd.ntmps8
  go_wp2_with fail
  refine (shown_any (H.out.below (((Below.refl B w).alloc H.out.size _).alloc (by have := H.out.size; simp; omega) _))).mono ?_
  rintro e w1 ⟨rfl, hb1⟩
  have hc1 := (hb1.block w.heap.size (by simp; omega)).trans (alloc_heap_old (.cells #[.int .i64 t0, .int .i64 t1, .int .i64 t2, .int .i64 t3, .int .i64 t4, .int .i64 t5, .int .i64 t6, .int .i64 t7] 23) (alloc_heap_at w (.cells #[.int .i64 s.a, .int .i64 s.b, .int .i64 s.c, .int .i64 s.d, .int .i64 s.e, .int .i64 s.f, .int .i64 s.g, .int .i64 s.h] 23) _ rfl))
  have hd1 := (hb1.block (w.heap.size + 1) (by simp)).trans (alloc_heap_at (w.alloc (.cells #[.int .i64 s.a, .int .i64 s.b, .int .i64 s.c, .int .i64 s.d, .int .i64 s.e, .int .i64 s.f, .int .i64 s.g, .int .i64 s.h] 23)) (.cells #[.int .i64 t0, .int .i64 t1, .int .i64 t2, .int .i64 t3, .int .i64 t4, .int .i64 t5, .int .i64 t6, .int .i64 t7] 23) _ (by simp))
  have hw1 : Below w.heap.size w w1 := (((Below.refl _ w).alloc (Nat.le_refl _) _).alloc (by simp) _).trans (hb1.mono (by simp; omega))
  have y0 : w1.cell? ⟨w.heap.size, 0, none⟩ = some (.int .i64 s.a) := cell_of hc1 0
  have y1 : w1.cell? ⟨w.heap.size, 1, none⟩ = some (.int .i64 s.b) := cell_of hc1 1
  have y2 : w1.cell? ⟨w.heap.size, 2, none⟩ = some (.int .i64 s.c) := cell_of hc1 2
  have y3 : w1.cell? ⟨w.heap.size, 3, none⟩ = some (.int .i64 s.d) := cell_of hc1 3
  have y4 : w1.cell? ⟨w.heap.size, 4, none⟩ = some (.int .i64 s.e) := cell_of hc1 4
  have y5 : w1.cell? ⟨w.heap.size, 5, none⟩ = some (.int .i64 s.f) := cell_of hc1 5
  have y6 : w1.cell? ⟨w.heap.size, 6, none⟩ = some (.int .i64 s.g) := cell_of hc1 6
  have y7 : w1.cell? ⟨w.heap.size, 7, none⟩ = some (.int .i64 s.h) := cell_of hc1 7
  have HC1 := Lib.hid hc1
  have HD1 := Lib.hid hd1
  have HW1 := Lib.hid hw1
  clear hb1 hc1 hd1 hw1
  go_wp2_with fail
  refine (bytes_ok s Hs.out (H.out.below (HW1.out.mono H.out.size))).mono ?_
  rintro e w2 ⟨rfl, hb2⟩
  have hw2 : Below w.heap.size w w2 := HW1.out.trans (hb2.mono HW1.out.size)
  have hc2 := (hb2.block _ (lt_of_heap HC1.out)).trans HC1.out
  have hd2 := (hb2.block _ (lt_of_heap HD1.out)).trans HD1.out
  clear y0 y1 y2 y3 y4 y5 y6 y7
  have y0 : w2.cell? ⟨w.heap.size + 1, 0, none⟩ = some (.int .i64 t0) := cell_of hd2 0
  have y1 : w2.cell? ⟨w.heap.size + 1, 1, none⟩ = some (.int .i64 t1) := cell_of hd2 1
  have y2 : w2.cell? ⟨w.heap.size + 1, 2, none⟩ = some (.int .i64 t2) := cell_of hd2 2
  have y3 : w2.cell? ⟨w.heap.size + 1, 3, none⟩ = some (.int .i64 t3) := cell_of hd2 3
  have y4 : w2.cell? ⟨w.heap.size + 1, 4, none⟩ = some (.int .i64 t4) := cell_of hd2 4
  have y5 : w2.cell? ⟨w.heap.size + 1, 5, none⟩ = some (.int .i64 t5) := cell_of hd2 5
  have y6 : w2.cell? ⟨w.heap.size + 1, 6, none⟩ = some (.int .i64 t6) := cell_of hd2 6
  have y7 : w2.cell? ⟨w.heap.size + 1, 7, none⟩ = some (.int .i64 t7) := cell_of hd2 7
  have HC2 := Lib.hid hc2
  have HD2 := Lib.hid hd2
  have HW2 := Lib.hid hw2
  clear hb2 hc2 hd2 hw2
  go_wp2_with fail
  refine (bytes_bad t0 t1 t2 t3 t4 t5 t6 t7 Ht.out (H.out.below (HW2.out.mono H.out.size))).mono ?_
  rintro e w3 ⟨rfl, hb3⟩
  have hw3 : Below w.heap.size w w3 := HW2.out.trans (hb3.mono HW2.out.size)
  have hc3 := (hb3.block _ (lt_of_heap HC2.out)).trans HC2.out
  have hd3 := (hb3.block _ (lt_of_heap HD2.out)).trans HD2.out
  clear y0 y1 y2 y3 y4 y5 y6 y7
  have y0 : w3.cell? ⟨w.heap.size, 0, none⟩ = some (.int .i64 s.a) := cell_of hc3 0
  have y1 : w3.cell? ⟨w.heap.size, 1, none⟩ = some (.int .i64 s.b) := cell_of hc3 1
  have y2 : w3.cell? ⟨w.heap.size, 2, none⟩ = some (.int .i64 s.c) := cell_of hc3 2
  have y3 : w3.cell? ⟨w.heap.size, 3, none⟩ = some (.int .i64 s.d) := cell_of hc3 3
  have y4 : w3.cell? ⟨w.heap.size, 4, none⟩ = some (.int .i64 s.e) := cell_of hc3 4
  have y5 : w3.cell? ⟨w.heap.size, 5, none⟩ = some (.int .i64 s.f) := cell_of hc3 5
  have y6 : w3.cell? ⟨w.heap.size, 6, none⟩ = some (.int .i64 s.g) := cell_of hc3 6
  have y7 : w3.cell? ⟨w.heap.size, 7, none⟩ = some (.int .i64 s.h) := cell_of hc3 7
  have x0 : w3.cell? ⟨w.heap.size + 1, 0, none⟩ = some (.int .i64 t0) := cell_of hd3 0
  have x1 : w3.cell? ⟨w.heap.size + 1, 1, none⟩ = some (.int .i64 t1) := cell_of hd3 1
  have x2 : w3.cell? ⟨w.heap.size + 1, 2, none⟩ = some (.int .i64 t2) := cell_of hd3 2
  have x3 : w3.cell? ⟨w.heap.size + 1, 3, none⟩ = some (.int .i64 t3) := cell_of hd3 3
  have x4 : w3.cell? ⟨w.heap.size + 1, 4, none⟩ = some (.int .i64 t4) := cell_of hd3 4
  have x5 : w3.cell? ⟨w.heap.size + 1, 5, none⟩ = some (.int .i64 t5) := cell_of hd3 5
  have x6 : w3.cell? ⟨w.heap.size + 1, 6, none⟩ = some (.int .i64 t6) := cell_of hd3 6
  have x7 : w3.cell? ⟨w.heap.size + 1, 7, none⟩ = some (.int .i64 t7) := cell_of hd3 7
  have HW3 := Lib.hid hw3
  clear hb3 hc3 hd3 hw3
  go_wp2_with fail
  exact bodyPost_ret (v := .bool true) (by simp [results, Tryd.results8, go_sem]) rfl ⟨rfl, HW3.out⟩
set_option maxRecDepth 100000 in
theorem apart_same (s : Sha.St) (hs : s.ok) {B : Nat} {aw ab : Addr} {w : World} (h : Glob B aw ab w) :
    Calls Tryd.prog 8 #[.agg #[.int .i64 s.a, .int .i64 s.b, .int .i64 s.c, .int .i64 s.d, .int .i64 s.e, .int .i64 s.f, .int .i64 s.g, .int .i64 s.h], .agg #[.int .i64 s.a, .int .i64 s.b, .int .i64 s.c, .int .i64 s.d, .int .i64 s.e, .int .i64 s.f, .int .i64 s.g, .int .i64 s.h]] w fun e w' => e = .returned (.bool true) ∧ Below w.heap.size w w' := by
  have H := Lib.hid h
  clear h
  have Hs := Lib.hid hs
  clear hs
  go_enter Tryd.func8, Tryd.ntmps8
  go_wp2_with fail
  refine (shown_any (H.out.below (((Below.refl B w).alloc H.out.size _).alloc (by have := H.out.size; simp; omega) _))).mono ?_
  rintro e w1 ⟨rfl, hb1⟩
  have hc1 := (hb1.block w.heap.size (by simp; omega)).trans (alloc_heap_old (.cells #[.int .i64 s.a, .int .i64 s.b, .int .i64 s.c, .int .i64 s.d, .int .i64 s.e, .int .i64 s.f, .int .i64 s.g, .int .i64 s.h] 23) (alloc_heap_at w (.cells #[.int .i64 s.a, .int .i64 s.b, .int .i64 s.c, .int .i64 s.d, .int .i64 s.e, .int .i64 s.f, .int .i64 s.g, .int .i64 s.h] 23) _ rfl))
  have hd1 := (hb1.block (w.heap.size + 1) (by simp)).trans (alloc_heap_at (w.alloc (.cells #[.int .i64 s.a, .int .i64 s.b, .int .i64 s.c, .int .i64 s.d, .int .i64 s.e, .int .i64 s.f, .int .i64 s.g, .int .i64 s.h] 23)) (.cells #[.int .i64 s.a, .int .i64 s.b, .int .i64 s.c, .int .i64 s.d, .int .i64 s.e, .int .i64 s.f, .int .i64 s.g, .int .i64 s.h] 23) _ (by simp))
  have hw1 : Below w.heap.size w w1 := (((Below.refl _ w).alloc (Nat.le_refl _) _).alloc (by simp) _).trans (hb1.mono (by simp; omega))
  have y0 : w1.cell? ⟨w.heap.size, 0, none⟩ = some (.int .i64 s.a) := cell_of hc1 0
  have y1 : w1.cell? ⟨w.heap.size, 1, none⟩ = some (.int .i64 s.b) := cell_of hc1 1
  have y2 : w1.cell? ⟨w.heap.size, 2, none⟩ = some (.int .i64 s.c) := cell_of hc1 2
  have y3 : w1.cell? ⟨w.heap.size, 3, none⟩ = some (.int .i64 s.d) := cell_of hc1 3
  have y4 : w1.cell? ⟨w.heap.size, 4, none⟩ = some (.int .i64 s.e) := cell_of hc1 4
  have y5 : w1.cell? ⟨w.heap.size, 5, none⟩ = some (.int .i64 s.f) := cell_of hc1 5
  have y6 : w1.cell? ⟨w.heap.size, 6, none⟩ = some (.int .i64 s.g) := cell_of hc1 6
  have y7 : w1.cell? ⟨w.heap.size, 7, none⟩ = some (.int .i64 s.h) := cell_of hc1 7
  have HC1 := Lib.hid hc1
  have HD1 := Lib.hid hd1
  have HW1 := Lib.hid hw1
  clear hb1 hc1 hd1 hw1
  go_wp2_with fail
  refine (bytes_ok s Hs.out (H.out.below (HW1.out.mono H.out.size))).mono ?_
  rintro e w2 ⟨rfl, hb2⟩
  have hw2 : Below w.heap.size w w2 := HW1.out.trans (hb2.mono HW1.out.size)
  have hc2 := (hb2.block _ (lt_of_heap HC1.out)).trans HC1.out
  have hd2 := (hb2.block _ (lt_of_heap HD1.out)).trans HD1.out
  clear y0 y1 y2 y3 y4 y5 y6 y7
  have y0 : w2.cell? ⟨w.heap.size + 1, 0, none⟩ = some (.int .i64 s.a) := cell_of hd2 0
  have y1 : w2.cell? ⟨w.heap.size + 1, 1, none⟩ = some (.int .i64 s.b) := cell_of hd2 1
  have y2 : w2.cell? ⟨w.heap.size + 1, 2, none⟩ = some (.int .i64 s.c) := cell_of hd2 2
  have y3 : w2.cell? ⟨w.heap.size + 1, 3, none⟩ = some (.int .i64 s.d) := cell_of hd2 3
  have y4 : w2.cell? ⟨w.heap.size + 1, 4, none⟩ = some (.int .i64 s.e) := cell_of hd2 4
  have y5 : w2.cell? ⟨w.heap.size + 1, 5, none⟩ = some (.int .i64 s.f) := cell_of hd2 5
  have y6 : w2.cell? ⟨w.heap.size + 1, 6, none⟩ = some (.int .i64 s.g) := cell_of hd2 6
  have y7 : w2.cell? ⟨w.heap.size + 1, 7, none⟩ = some (.int .i64 s.h) := cell_of hd2 7
  have HC2 := Lib.hid hc2
  have HD2 := Lib.hid hd2
  have HW2 := Lib.hid hw2
  clear hb2 hc2 hd2 hw2
  go_wp2_with fail
  refine (bytes_ok s Hs.out (H.out.below (HW2.out.mono H.out.size))).mono ?_
  rintro e w3 ⟨rfl, hb3⟩
  have hw3 : Below w.heap.size w w3 := HW2.out.trans (hb3.mono HW2.out.size)
  have hc3 := (hb3.block _ (lt_of_heap HC2.out)).trans HC2.out
  have hd3 := (hb3.block _ (lt_of_heap HD2.out)).trans HD2.out
  clear y0 y1 y2 y3 y4 y5 y6 y7
  have y0 : w3.cell? ⟨w.heap.size, 0, none⟩ = some (.int .i64 s.a) := cell_of hc3 0
  have y1 : w3.cell? ⟨w.heap.size, 1, none⟩ = some (.int .i64 s.b) := cell_of hc3 1
  have y2 : w3.cell? ⟨w.heap.size, 2, none⟩ = some (.int .i64 s.c) := cell_of hc3 2
  have y3 : w3.cell? ⟨w.heap.size, 3, none⟩ = some (.int .i64 s.d) := cell_of hc3 3
  have y4 : w3.cell? ⟨w.heap.size, 4, none⟩ = some (.int .i64 s.e) := cell_of hc3 4
  have y5 : w3.cell? ⟨w.heap.size, 5, none⟩ = some (.int .i64 s.f) := cell_of hc3 5
  have y6 : w3.cell? ⟨w.heap.size, 6, none⟩ = some (.int .i64 s.g) := cell_of hc3 6
  have y7 : w3.cell? ⟨w.heap.size, 7, none⟩ = some (.int .i64 s.h) := cell_of hc3 7
  have x0 : w3.cell? ⟨w.heap.size + 1, 0, none⟩ = some (.int .i64 s.a) := cell_of hd3 0
  have x1 : w3.cell? ⟨w.heap.size + 1, 1, none⟩ = some (.int .i64 s.b) := cell_of hd3 1
  have x2 : w3.cell? ⟨w.heap.size + 1, 2, none⟩ = some (.int .i64 s.c) := cell_of hd3 2
  have x3 : w3.cell? ⟨w.heap.size + 1, 3, none⟩ = some (.int .i64 s.d) := cell_of hd3 3
  have x4 : w3.cell? ⟨w.heap.size + 1, 4, none⟩ = some (.int .i64 s.e) := cell_of hd3 4
  have x5 : w3.cell? ⟨w.heap.size + 1, 5, none⟩ = some (.int .i64 s.f) := cell_of hd3 5
  have x6 : w3.cell? ⟨w.heap.size + 1, 6, none⟩ = some (.int .i64 s.g) := cell_of hd3 6
  have x7 : w3.cell? ⟨w.heap.size + 1, 7, none⟩ = some (.int .i64 s.h) := cell_of hd3 7
  have HW3 := Lib.hid hw3
  clear hb3 hc3 hd3 hw3
  have hsz : (⟨(stBytes s).toArray⟩ : ByteArray).size = 32 := stBytes_size s
  have heq : eq8 [(s.a : Int), (s.b : Int), (s.c : Int), (s.d : Int), (s.e : Int), (s.f : Int), (s.g : Int), (s.h : Int)] [(s.a : Int), (s.b : Int), (s.c : Int), (s.d : Int), (s.e : Int), (s.f : Int), (s.g : Int), (s.h : Int)] = true := eq8_refl _
  generalize (⟨(stBytes s).toArray⟩ : ByteArray) = bs at hsz ⊢
  go_wp2_with fail
  exact bodyPost_ret (v := .bool true) (by simp [results, Tryd.results8, go_sem]) rfl ⟨rfl, HW3.out⟩
set_option maxRecDepth 100000 in
theorem apart_diff (s : Sha.St) (hs : s.ok) (t : Sha.St) (ht : t.ok) (hne : s ≠ t) {B : Nat} {aw ab : Addr} {w : World} (h : Glob B aw ab w) :
    Calls Tryd.prog 8 #[.agg #[.int .i64 s.a, .int .i64 s.b, .int .i64 s.c, .int .i64 s.d, .int .i64 s.e, .int .i64 s.f, .int .i64 s.g, .int .i64 s.h], .agg #[.int .i64 t.a, .int .i64 t.b, .int .i64 t.c, .int .i64 t.d, .int .i64 t.e, .int .i64 t.f, .int .i64 t.g, .int .i64 t.h]] w fun e w' => e = .returned (.bool true) ∧ Below w.heap.size w w' := by
  have H := Lib.hid h
  clear h
  have Hs := Lib.hid hs
  have Ht := Lib.hid ht
  have Hn := Lib.hid hne
  clear hs ht hne
  go_enter Tryd.func8, Tryd.ntmps8
  go_wp2_with fail
  refine (shown_any (H.out.below (((Below.refl B w).alloc H.out.size _).alloc (by have := H.out.size; simp; omega) _))).mono ?_
  rintro e w1 ⟨rfl, hb1⟩
  have hc1 := (hb1.block w.heap.size (by simp; omega)).trans (alloc_heap_old (.cells #[.int .i64 t.a, .int .i64 t.b, .int .i64 t.c, .int .i64 t.d, .int .i64 t.e, .int .i64 t.f, .int .i64 t.g, .int .i64 t.h] 23) (alloc_heap_at w (.cells #[.int .i64 s.a, .int .i64 s.b, .int .i64 s.c, .int .i64 s.d, .int .i64 s.e, .int .i64 s.f, .int .i64 s.g, .int .i64 s.h] 23) _ rfl))
  have hd1 := (hb1.block (w.heap.size + 1) (by simp)).trans (alloc_heap_at (w.alloc (.cells #[.int .i64 s.a, .int .i64 s.b, .int .i64 s.c, .int .i64 s.d, .int .i64 s.e, .int .i64 s.f, .int .i64 s.g, .int .i64 s.h] 23)) (.cells #[.int .i64 t.a, .int .i64 t.b, .int .i64 t.c, .int .i64 t.d, .int .i64 t.e, .int .i64 t.f, .int .i64 t.g, .int .i64 t.h] 23) _ (by simp))
  have hw1 : Below w.heap.size w w1 := (((Below.refl _ w).alloc (Nat.le_refl _) _).alloc (by simp) _).trans (hb1.mono (by simp; omega))
  have y0 : w1.cell? ⟨w.heap.size, 0, none⟩ = some (.int .i64 s.a) := cell_of hc1 0
  have y1 : w1.cell? ⟨w.heap.size, 1, none⟩ = some (.int .i64 s.b) := cell_of hc1 1
  have y2 : w1.cell? ⟨w.heap.size, 2, none⟩ = some (.int .i64 s.c) := cell_of hc1 2
  have y3 : w1.cell? ⟨w.heap.size, 3, none⟩ = some (.int .i64 s.d) := cell_of hc1 3
  have y4 : w1.cell? ⟨w.heap.size, 4, none⟩ = some (.int .i64 s.e) := cell_of hc1 4
  have y5 : w1.cell? ⟨w.heap.size, 5, none⟩ = some (.int .i64 s.f) := cell_of hc1 5
  have y6 : w1.cell? ⟨w.heap.size, 6, none⟩ = some (.int .i64 s.g) := cell_of hc1 6
  have y7 : w1.cell? ⟨w.heap.size, 7, none⟩ = some (.int .i64 s.h) := cell_of hc1 7
  have HC1 := Lib.hid hc1
  have HD1 := Lib.hid hd1
  have HW1 := Lib.hid hw1
  clear hb1 hc1 hd1 hw1
  go_wp2_with fail
  refine (bytes_ok s Hs.out (H.out.below (HW1.out.mono H.out.size))).mono ?_
  rintro e w2 ⟨rfl, hb2⟩
  have hw2 : Below w.heap.size w w2 := HW1.out.trans (hb2.mono HW1.out.size)
  have hc2 := (hb2.block _ (lt_of_heap HC1.out)).trans HC1.out
  have hd2 := (hb2.block _ (lt_of_heap HD1.out)).trans HD1.out
  clear y0 y1 y2 y3 y4 y5 y6 y7
  have y0 : w2.cell? ⟨w.heap.size + 1, 0, none⟩ = some (.int .i64 t.a) := cell_of hd2 0
  have y1 : w2.cell? ⟨w.heap.size + 1, 1, none⟩ = some (.int .i64 t.b) := cell_of hd2 1
  have y2 : w2.cell? ⟨w.heap.size + 1, 2, none⟩ = some (.int .i64 t.c) := cell_of hd2 2
  have y3 : w2.cell? ⟨w.heap.size + 1, 3, none⟩ = some (.int .i64 t.d) := cell_of hd2 3
  have y4 : w2.cell? ⟨w.heap.size + 1, 4, none⟩ = some (.int .i64 t.e) := cell_of hd2 4
  have y5 : w2.cell? ⟨w.heap.size + 1, 5, none⟩ = some (.int .i64 t.f) := cell_of hd2 5
  have y6 : w2.cell? ⟨w.heap.size + 1, 6, none⟩ = some (.int .i64 t.g) := cell_of hd2 6
  have y7 : w2.cell? ⟨w.heap.size + 1, 7, none⟩ = some (.int .i64 t.h) := cell_of hd2 7
  have HC2 := Lib.hid hc2
  have HD2 := Lib.hid hd2
  have HW2 := Lib.hid hw2
  clear hb2 hc2 hd2 hw2
  go_wp2_with fail
  refine (bytes_ok t Ht.out (H.out.below (HW2.out.mono H.out.size))).mono ?_
  rintro e w3 ⟨rfl, hb3⟩
  have hw3 : Below w.heap.size w w3 := HW2.out.trans (hb3.mono HW2.out.size)
  have hc3 := (hb3.block _ (lt_of_heap HC2.out)).trans HC2.out
  have hd3 := (hb3.block _ (lt_of_heap HD2.out)).trans HD2.out
  clear y0 y1 y2 y3 y4 y5 y6 y7
  have y0 : w3.cell? ⟨w.heap.size, 0, none⟩ = some (.int .i64 s.a) := cell_of hc3 0
  have y1 : w3.cell? ⟨w.heap.size, 1, none⟩ = some (.int .i64 s.b) := cell_of hc3 1
  have y2 : w3.cell? ⟨w.heap.size, 2, none⟩ = some (.int .i64 s.c) := cell_of hc3 2
  have y3 : w3.cell? ⟨w.heap.size, 3, none⟩ = some (.int .i64 s.d) := cell_of hc3 3
  have y4 : w3.cell? ⟨w.heap.size, 4, none⟩ = some (.int .i64 s.e) := cell_of hc3 4
  have y5 : w3.cell? ⟨w.heap.size, 5, none⟩ = some (.int .i64 s.f) := cell_of hc3 5
  have y6 : w3.cell? ⟨w.heap.size, 6, none⟩ = some (.int .i64 s.g) := cell_of hc3 6
  have y7 : w3.cell? ⟨w.heap.size, 7, none⟩ = some (.int .i64 s.h) := cell_of hc3 7
  have x0 : w3.cell? ⟨w.heap.size + 1, 0, none⟩ = some (.int .i64 t.a) := cell_of hd3 0
  have x1 : w3.cell? ⟨w.heap.size + 1, 1, none⟩ = some (.int .i64 t.b) := cell_of hd3 1
  have x2 : w3.cell? ⟨w.heap.size + 1, 2, none⟩ = some (.int .i64 t.c) := cell_of hd3 2
  have x3 : w3.cell? ⟨w.heap.size + 1, 3, none⟩ = some (.int .i64 t.d) := cell_of hd3 3
  have x4 : w3.cell? ⟨w.heap.size + 1, 4, none⟩ = some (.int .i64 t.e) := cell_of hd3 4
  have x5 : w3.cell? ⟨w.heap.size + 1, 5, none⟩ = some (.int .i64 t.f) := cell_of hd3 5
  have x6 : w3.cell? ⟨w.heap.size + 1, 6, none⟩ = some (.int .i64 t.g) := cell_of hd3 6
  have x7 : w3.cell? ⟨w.heap.size + 1, 7, none⟩ = some (.int .i64 t.h) := cell_of hd3 7
  have HW3 := Lib.hid hw3
  clear hb3 hc3 hd3 hw3
  have hsz : (⟨(stBytes s).toArray⟩ : ByteArray).size = 32 := stBytes_size s
  have hbn : ¬ (⟨(stBytes s).toArray⟩ : ByteArray) = ⟨(stBytes t).toArray⟩ := fun e => Hn.out (stBytes_inj Hs.out Ht.out (by simpa using congrArg (fun b => b.data.toList) e))
  have heq : eq8 [(s.a : Int), (s.b : Int), (s.c : Int), (s.d : Int), (s.e : Int), (s.f : Int), (s.g : Int), (s.h : Int)] [(t.a : Int), (t.b : Int), (t.c : Int), (t.d : Int), (t.e : Int), (t.f : Int), (t.g : Int), (t.h : Int)] = false := eq8_false Hn.out
  have htl : ((⟨(stBytes s).toArray⟩ : ByteArray).toList == (⟨(stBytes t).toArray⟩ : ByteArray).toList) = false := by rw [beq_eq_false_iff_ne]; exact fun e => hbn (toList_inj e)
  generalize (⟨(stBytes s).toArray⟩ : ByteArray) = bs at hsz hbn htl ⊢
  generalize (⟨(stBytes t).toArray⟩ : ByteArray) = bt at hbn htl ⊢
  go_wp2_with fail
  exact bodyPost_ret (v := .bool true) (by simp [results, Tryd.results8, go_sem]) rfl ⟨rfl, HW3.out⟩
/-- EVERY TWO STATES. -/
theorem apart_law (s0 s1 s2 s3 s4 s5 s6 s7 t0 t1 t2 t3 t4 t5 t6 t7 : Int) {B : Nat} {aw ab : Addr} {w : World} (h : Glob B aw ab w) :
    Calls Tryd.prog 8 #[.agg #[.int .i64 s0, .int .i64 s1, .int .i64 s2, .int .i64 s3, .int .i64 s4, .int .i64 s5, .int .i64 s6, .int .i64 s7], .agg #[.int .i64 t0, .int .i64 t1, .int .i64 t2, .int .i64 t3, .int .i64 t4, .int .i64 t5, .int .i64 t6, .int .i64 t7]] w fun e w' => e = .returned (.bool true) ∧ Below w.heap.size w w' := by
  by_cases hS : Words8 s0 s1 s2 s3 s4 s5 s6 s7
  · obtain ⟨s, hs, rfl, rfl, rfl, rfl, rfl, rfl, rfl, rfl⟩ := words_st hS
    by_cases hT : Words8 t0 t1 t2 t3 t4 t5 t6 t7
    · obtain ⟨t, ht, rfl, rfl, rfl, rfl, rfl, rfl, rfl, rfl⟩ := words_st hT
      by_cases e : s = t
      · subst e
        exact apart_same s hs h
      · exact apart_diff s hs t ht e h
    · exact apart_ok_bad s hs t0 t1 t2 t3 t4 t5 t6 t7 hT h
  · by_cases hT : Words8 t0 t1 t2 t3 t4 t5 t6 t7
    · obtain ⟨t, ht, rfl, rfl, rfl, rfl, rfl, rfl, rfl, rfl⟩ := words_st hT
      exact apart_bad_ok s0 s1 s2 s3 s4 s5 s6 s7 hS t ht h
    · exact apart_bad_bad s0 s1 s2 s3 s4 s5 s6 s7 hS t0 t1 t2 t3 t4 t5 t6 t7 hT h
end Go.Proofs.YtfafidholldjlaaDoor
