/- Compress, over a block. -/
import Derived.Test.YtfafidholldjlaaDoorA8
import Derived.Test.YtfafidholldjlaaDoorA9
import Derived.Test.YtfafidholldjlaaDoorA2
import Derived.Deep.RegionWith
import Derived.StillTailTactics
import Derived.Test.YtfafidholldjlaaDoorFar8
import Derived.Test.YtfafidholldjlaaDoorEq
set_option linter.unusedVariables false
set_option linter.unusedSimpArgs false
namespace Go.Proofs.YtfafidholldjlaaDoor
open Go.RowKit
attribute [local go_sem] Oper.semAt_some
theorem of_any (s : Sha.St) (hs : s.ok) (w : World) :
    Calls Tryd.prog 65 #[.agg #[.int .i64 s.a, .int .i64 s.b, .int .i64 s.c, .int .i64 s.d, .int .i64 s.e, .int .i64 s.f, .int .i64 s.g, .int .i64 s.h]] w fun e w' => e = .returned (.tuple #[.agg #[.int .u32 s.a, .int .u32 s.b, .int .u32 s.c, .int .u32 s.d, .int .u32 s.e, .int .u32 s.f, .int .u32 s.g, .int .u32 s.h], .nilIface]) ∧ Below w.heap.size w w' := by
  obtain ⟨h0, h1, h2, h3, h4, h5, h6, h7⟩ := hs
  exact of_ok s.a s.b s.c s.d s.e s.f s.g s.h w (by omega) (by omega) (by omega) (by omega) (by omega) (by omega) (by omega) (by omega) (by omega) (by omega) (by omega) (by omega) (by omega) (by omega) (by omega) (by omega)
theorem results29 (tmps : Array Value) (w : World) (b : Nat) (v0 v1 v2 v3 v4 v5 v6 v7 e : Value) (h4 : tmps.getD 4 undef = .pointer (some ⟨b, 0, none⟩)) (h5 : tmps.getD 5 undef = e) (hb : w.heap[b]? = some (.cells #[v0, v1, v2, v3, v4, v5, v6, v7] 23 (0, 0))) :
    (results Tryd.f29 tmps).run Tryd.prog w = .ok (.tuple #[.agg #[v0, v1, v2, v3, v4, v5, v6, v7], e]) w := by
  have c0 : w.cell? ⟨b, 0, none⟩ = some v0 := cell_of hb 0
  have c1 : w.cell? ⟨b, 1, none⟩ = some v1 := cell_of hb 1
  have c2 : w.cell? ⟨b, 2, none⟩ = some v2 := cell_of hb 2
  have c3 : w.cell? ⟨b, 3, none⟩ = some v3 := cell_of hb 3
  have c4 : w.cell? ⟨b, 4, none⟩ = some v4 := cell_of hb 4
  have c5 : w.cell? ⟨b, 5, none⟩ = some v5 := cell_of hb 5
  have c6 : w.cell? ⟨b, 6, none⟩ = some v6 := cell_of hb 6
  have c7 : w.cell? ⟨b, 7, none⟩ = some v7 := cell_of hb 7
  simp only [Array.getD_eq_getD_getElem?] at h4 h5
  simp [results, Tryd.results29, go_sem, h4, h5, c0, c1, c2, c3, c4, c5, c6, c7]
set_option maxRecDepth 100000 in
set_option maxHeartbeats 2000000 in
theorem compress_ok {B : Nat} {aw ab : Addr} {w : World} (h : Glob B aw ab w) (s : Sha.St) (hs : s.ok) (blk : ByteArray) (hb : blk.size = 64) :
    Calls Tryd.prog 29 #[.agg #[.int .i64 s.a, .int .i64 s.b, .int .i64 s.c, .int .i64 s.d, .int .i64 s.e, .int .i64 s.f, .int .i64 s.g, .int .i64 s.h], .string blk] w fun e w' => e = .returned (.tuple #[.agg (row64 (s.compress (byteAt blk))), .int .i64 0]) ∧ Below w.heap.size w w' := by
  have Hb := Lib.hid hb
  have Hs := Lib.hid hs
  clear hb hs
  refine callsIn_wide.1 (callsIn_of_wp_marks (n := 5) Tryd.func29 rfl trivial (wpIn_wide.2 ?_))
  simp only [Tryd.ntmps29, List.size_toArray, List.length_cons, List.length_nil, Nat.reduceAdd, Nat.reduceSub, Array.replicate_succ, Array.replicate_zero, List.push_toArray, List.append_toArray, List.nil_append, List.cons_append]
  go_wp2_with fail
  refine (of_any s Hs.out _).mono ?_
  rintro e w1 ⟨rfl, hb1⟩
  go_wp2_with fail
  refine (checkBlock_ok blk _ Hb.out).mono ?_
  rintro e w' ⟨rfl, rfl⟩
  go_wp2_with fail
  refine (words_any blk _).mono ?_
  rintro e w2 ⟨rfl, hT⟩
  go_wp2_with fail
  obtain ⟨T', hbs, hbw, hbl, hsz⟩ := hT
  simp only [World.size_alloc] at hbs hbw hbl hsz hb1
  have z1 : w.heap.size + 2 ≤ w1.heap.size := by have := hb1.size; simp at this; omega
  have k0 : w2.heap[w1.heap.size]? = some (.cells #[.int .u32 s.a, .int .u32 s.b, .int .u32 s.c, .int .u32 s.d, .int .u32 s.e, .int .u32 s.f, .int .u32 s.g, .int .u32 s.h] 78 (0, 0)) := (hbl.block _ (by omega)).trans (alloc_heap_old _ (alloc_heap_old _ (alloc_heap_old _ (alloc_heap _ _))))
  have k1 : w2.heap[w1.heap.size + 1]? = some (.cells (row32 s) 83 (0, 0)) := (hbl.block _ (by omega)).trans (alloc_heap_old _ (alloc_heap_old _ (alloc_heap_at _ _ _ (by simp))))
  have k2 : w2.heap[w1.heap.size + 1 + 1]? = some (.cells #[.pointer (some ⟨w1.heap.size + 1, 0, none⟩)] 81 (0, 0)) := (hbl.block _ (by omega)).trans (alloc_heap_old _ (alloc_heap_at _ _ _ (by simp)))
  have k3 : w2.heap[w1.heap.size + 1 + 1 + 1]? = some (.cells #[.int .i64 0] 3 (0, 0)) := (hbl.block _ (by omega)).trans (alloc_heap_at _ _ _ (by simp))
  have hw2 : Below w1.heap.size w1 w2 := (((((Below.refl _ _).alloc (Nat.le_refl _) _).alloc (by simp) _).alloc (by simp; omega) _).alloc (by simp; omega) _).trans (hbl.mono (by omega))
  have kc : w2.heap[w.heap.size + 1]? = some (.cells #[.int .i64 0, .int .i64 0, .int .i64 0, .int .i64 0, .int .i64 0, .int .i64 0, .int .i64 0, .int .i64 0] 23 (0, 0)) := (hw2.block _ (by omega)).trans ((hb1.block _ (by omega)).trans (alloc_heap_at _ _ _ (by simp)))
  have kb : w2.heap[w.heap.size]? = some (.cells #[.int .i64 s.a, .int .i64 s.b, .int .i64 s.c, .int .i64 s.d, .int .i64 s.e, .int .i64 s.f, .int .i64 s.g, .int .i64 s.h] 23 (0, 0)) := (hw2.block _ (by omega)).trans ((hb1.block _ (by omega)).trans (alloc_heap_old _ (alloc_heap _ _)))
  have hw : Below w.heap.size w w2 := (((Below.refl _ w).alloc (Nat.le_refl _) _).alloc (by simp) _).trans ((hb1.mono (by omega)).trans (hw2.mono (by omega)))
  have hs1 : w1.heap.size + 6 = w2.heap.size := by omega
  have Hs1 := Lib.hid hs1
  have hlt2 : w1.heap.size + 5 < w2.heap.size := by omega
  clear hsz hs1 hbl hb1
  have hGl : ∀ W, Below w1.heap.size w2 W → Glob B aw ab W := fun W hW => h.below ((hw.mono h.size).trans (hW.mono (by have := h.size; omega)))
  have K0 := Lib.hid k0
  have K1 := Lib.hid k1
  have K2 := Lib.hid k2
  have K3 := Lib.hid k3
  have KC := Lib.hid kc
  have KB := Lib.hid kb
  have HG := Lib.hid hGl
  clear k0 k1 k2 k3 kc kb hGl
  refine wpIn_wide.1 (range_law (n := 5) (gf := 82) (lb := #[.pointer (some ⟨w1.heap.size + 1 + 1 + 1 + 1, 0, none⟩), .pointer (some ⟨w1.heap.size + 1 + 1 + 1 + 1 + 1, 0, none⟩)]) rfl (fun args wx => enters82 args wx)
    (words_iter blk Hb.out _ _ _ _ w2 hbs hbw (by omega)) (fun k e => by subst e; exact lt_of_heap hbw) (fun k e => by rcases e with rfl | rfl; exact lt_of_heap hbs; exact lt_of_heap hbw) (fun _ => rfl)
    (fun t W => W.heap[w1.heap.size + 1]? = some (.cells (row32 (s.rounds (byteAt blk) t)) 83 (0, 0)) ∧ W.heap[w1.heap.size + 1 + 1]? = some (.cells #[.pointer (some ⟨w1.heap.size + 1, 0, none⟩)] 81 (0, 0)) ∧ W.heap[w1.heap.size + 1 + 1 + 1]? = some (.cells #[.int .i64 (t : Int)] 3 (0, 0)) ∧ W.heap[w1.heap.size]? = some (.cells #[.int .u32 s.a, .int .u32 s.b, .int .u32 s.c, .int .u32 s.d, .int .u32 s.e, .int .u32 s.f, .int .u32 s.g, .int .u32 s.h] 78 (0, 0)) ∧ Below w1.heap.size w2 W)
    (fun _ _ => False) ?hI (fun _ _ _ h _ => h) (fun _ _ _ h => h) ?h0 (fun t => { tmps := #[Value.agg #[.int .i64 s.a, .int .i64 s.b, .int .i64 s.c, .int .i64 s.d, .int .i64 s.e, .int .i64 s.f, .int .i64 s.g, .int .i64 s.h], Value.string blk, Value.pointer (some ⟨w.heap.size, 0, none⟩), undef, Value.pointer (some ⟨w.heap.size + 1, 0, none⟩), Value.int .i64 0,
      Value.pointer (some ⟨w1.heap.size, 0, none⟩), Value.nilIface, Value.pointer (some ⟨w1.heap.size + 1 + 1, 0, none⟩), Value.pointer (some ⟨w1.heap.size + 1 + 1 + 1, 0, none⟩), .int .u32 (Sha.word (byteAt blk) t : Nat),
      Value.tuple #[Value.agg #[.int .u32 s.a, .int .u32 s.b, .int .u32 s.c, .int .u32 s.d, .int .u32 s.e, .int .u32 s.f, .int .u32 s.g, .int .u32 s.h], Value.nilIface], Value.agg #[.int .i64 s.a, .int .i64 s.b, .int .i64 s.c, .int .i64 s.d, .int .i64 s.e, .int .i64 s.f, .int .i64 s.g, .int .i64 s.h], Value.tuple #[Value.agg #[.int .u32 s.a, .int .u32 s.b, .int .u32 s.c, .int .u32 s.d, .int .u32 s.e, .int .u32 s.f, .int .u32 s.g, .int .u32 s.h], Value.nilIface], Value.agg #[.int .u32 s.a, .int .u32 s.b, .int .u32 s.c, .int .u32 s.d, .int .u32 s.e, .int .u32 s.f, .int .u32 s.g, .int .u32 s.h], Value.nilIface, Value.nilIface, Value.bool true, Value.string blk, Value.nilIface, Value.nilIface,
      Value.bool false, undef, undef, undef, Value.agg #[.int .u32 s.a, .int .u32 s.b, .int .u32 s.c, .int .u32 s.d, .int .u32 s.e, .int .u32 s.f, .int .u32 s.g, .int .u32 s.h], Value.agg #[.int .u32 s.a, .int .u32 s.b, .int .u32 s.c, .int .u32 s.d, .int .u32 s.e, .int .u32 s.f, .int .u32 s.g, .int .u32 s.h], Value.pointer (some ⟨w1.heap.size + 1, 0, none⟩), Value.string blk,
      Value.func (Fn.func 82) #[] #[Value.pointer (some ⟨w1.heap.size + 1 + 1 + 1 + 1, 0, none⟩), Value.pointer (some ⟨w1.heap.size + 1 + 1 + 1 + 1 + 1, 0, none⟩)], .int .u32 (Sha.word (byteAt blk) t : Nat),
      undef, undef, undef, undef, undef, undef, undef, undef, undef, undef, undef, undef, undef, undef, undef, undef, undef, undef, undef, undef, undef, undef], defers := [] }) ?assign ?body ?done (fun _ _ h _ => h.elim))
  case hI =>
    rintro t W W' ⟨q1, q2, q3, q0, hb⟩ hf
    exact ⟨hf.heap q1 (by omega), hf.heap q2 (by omega), hf.heap q3 (by omega), hf.heap q0 (by omega), hb.trans (hf.to_below (by have := hb.size; omega) (by omega))⟩
  case h0 => exact ⟨K1.out, K2.out, K3.out, K0.out, Below.refl _ _⟩
  case assign =>
    intro t W K hK
    gi_wp2
    exact hK
  case body =>
    rintro t W ht hlt ⟨q1, q2, q3, q0, hb⟩
    have c2 : W.cell? ⟨w1.heap.size + 1 + 1, 0, none⟩ = some (.pointer (some ⟨w1.heap.size + 1, 0, none⟩)) := cell_of q2 0
    have c3 : W.cell? ⟨w1.heap.size + 1 + 1 + 1, 0, none⟩ = some (.int .i64 (t : Int)) := cell_of q3 0
    have hrd := round_any (w1.heap.size + 1) 83 (s.rounds (byteAt blk) t) (Sha.St.rounds_ok Hs.out _ t) t (Sha.word (byteAt blk) t) (HG.out W hb) q1 ht
    have HR := Lib.hid hrd
    have Q1 := Lib.hid q1
    have Q2 := Lib.hid q2
    have Q3 := Lib.hid q3
    have Q0 := Lib.hid q0
    clear hrd q1 q2 q3 q0
    gi_wp2_with fail
    refine ⟨trivial, (CallsIn.inRound _ (callsIn_wide.2 HR.out)).mono ?_⟩
    rintro e W3 ⟨rfl, hr3, hf3⟩
    have c3' : W3.cell? ⟨w1.heap.size + 1 + 1 + 1, 0, none⟩ = some (.int .i64 (t : Int)) := cell_of (hf3.heap Q3.out (by omega)) 0
    have f3' : W3.frozen? ⟨w1.heap.size + 1 + 1 + 1, 0, none⟩ = false := frozen_of (hf3.heap Q3.out (by omega)) 0
    have R3 := Lib.hid hr3
    have F3 := Lib.hid hf3
    clear hr3 hf3
    gi_wp2_with fail
    have hN : Below w1.heap.size w2 W3 := hb.trans (F3.out.to_below (by have := hb.size; omega) (by omega))
    refine ⟨⟨(Below.heap_setCell _ _ _ _ (by simp)).trans R3.out, (Below.heap_setCell _ _ _ _ (by simp)).trans (F3.out.heap Q2.out (by omega)), ?_, (Below.heap_setCell _ _ _ _ (by simp; omega)).trans (F3.out.heap Q0.out (by omega)), hN.setCell (p := ⟨w1.heap.size + 1 + 1 + 1, 0, none⟩) (by simp; omega) _⟩, ?_⟩
    · exact setCell_heap (F3.out.heap Q3.out (by omega)) 0 _
    · exact (F3.out.mono (fun k _ e => by subst e; omega)).setCell (fun _ e => by simp only at e; omega) _
  case done =>
    rintro W ⟨q1, q2, q3, q0, hb⟩ hK
    have c2 : W.cell? ⟨w1.heap.size + 1 + 1, 0, none⟩ = some (.pointer (some ⟨w1.heap.size + 1, 0, none⟩)) := cell_of q2 0
    obtain ⟨S, hS⟩ : ∃ S, s.rounds (byteAt blk) 64 = S := ⟨_, rfl⟩
    rw [hS] at q1
    have d0 : W.cell? ⟨w1.heap.size + 1, 0, none⟩ = some (.int .u32 S.a) := cell_of q1 0
    have d1 : W.cell? ⟨w1.heap.size + 1, 1, none⟩ = some (.int .u32 S.b) := cell_of q1 1
    have d2 : W.cell? ⟨w1.heap.size + 1, 2, none⟩ = some (.int .u32 S.c) := cell_of q1 2
    have d3 : W.cell? ⟨w1.heap.size + 1, 3, none⟩ = some (.int .u32 S.d) := cell_of q1 3
    have d4 : W.cell? ⟨w1.heap.size + 1, 4, none⟩ = some (.int .u32 S.e) := cell_of q1 4
    have d5 : W.cell? ⟨w1.heap.size + 1, 5, none⟩ = some (.int .u32 S.f) := cell_of q1 5
    have d6 : W.cell? ⟨w1.heap.size + 1, 6, none⟩ = some (.int .u32 S.g) := cell_of q1 6
    have d7 : W.cell? ⟨w1.heap.size + 1, 7, none⟩ = some (.int .u32 S.h) := cell_of q1 7
    have Q0 := Lib.hid q0
    have Q1 := Lib.hid q1
    have Q2 := Lib.hid q2
    have HSS := Lib.hid hS
    have HK := Lib.hid hK
    clear q0 q1 q2 q3 hK hS
    by_cases hz : S = Sha.St.zero
    · have hz8 : eq8 [(S.a : Int), S.b, S.c, S.d, S.e, S.f, S.g, S.h] [0, 0, 0, 0, 0, 0, 0, 0] = true := by rw [hz]; rfl
      have hb0 : W.heap[w.heap.size]? = some (.cells #[.int .i64 s.a, .int .i64 s.b, .int .i64 s.c, .int .i64 s.d, .int .i64 s.e, .int .i64 s.f, .int .i64 s.g, .int .i64 s.h] 23 (0, 0)) := (hb.block _ (by omega)).trans KB.out
      have hc0 : W.heap[w.heap.size + 1]? = some (.cells #[.int .i64 0, .int .i64 0, .int .i64 0, .int .i64 0, .int .i64 0, .int .i64 0, .int .i64 0, .int .i64 0] 23 (0, 0)) := (hb.block _ (by omega)).trans KC.out
      have x0 : W.cell? ⟨w.heap.size, 0, none⟩ = some (.int .i64 s.a) := cell_of hb0 0
      have x1 : W.cell? ⟨w.heap.size, 1, none⟩ = some (.int .i64 s.b) := cell_of hb0 1
      have x2 : W.cell? ⟨w.heap.size, 2, none⟩ = some (.int .i64 s.c) := cell_of hb0 2
      have x3 : W.cell? ⟨w.heap.size, 3, none⟩ = some (.int .i64 s.d) := cell_of hb0 3
      have x4 : W.cell? ⟨w.heap.size, 4, none⟩ = some (.int .i64 s.e) := cell_of hb0 4
      have x5 : W.cell? ⟨w.heap.size, 5, none⟩ = some (.int .i64 s.f) := cell_of hb0 5
      have x6 : W.cell? ⟨w.heap.size, 6, none⟩ = some (.int .i64 s.g) := cell_of hb0 6
      have x7 : W.cell? ⟨w.heap.size, 7, none⟩ = some (.int .i64 s.h) := cell_of hb0 7
      have HC0 := Lib.hid hc0
      have y0 : W.cell? ⟨w.heap.size + 1, 0, none⟩ = some (.int .i64 0) := cell_of hc0 0
      have f0 : W.frozen? ⟨w.heap.size + 1, 0, none⟩ = false := frozen_of hc0 0
      have y1 : W.cell? ⟨w.heap.size + 1, 1, none⟩ = some (.int .i64 0) := cell_of hc0 1
      have f1 : W.frozen? ⟨w.heap.size + 1, 1, none⟩ = false := frozen_of hc0 1
      have y2 : W.cell? ⟨w.heap.size + 1, 2, none⟩ = some (.int .i64 0) := cell_of hc0 2
      have f2 : W.frozen? ⟨w.heap.size + 1, 2, none⟩ = false := frozen_of hc0 2
      have y3 : W.cell? ⟨w.heap.size + 1, 3, none⟩ = some (.int .i64 0) := cell_of hc0 3
      have f3 : W.frozen? ⟨w.heap.size + 1, 3, none⟩ = false := frozen_of hc0 3
      have y4 : W.cell? ⟨w.heap.size + 1, 4, none⟩ = some (.int .i64 0) := cell_of hc0 4
      have f4 : W.frozen? ⟨w.heap.size + 1, 4, none⟩ = false := frozen_of hc0 4
      have y5 : W.cell? ⟨w.heap.size + 1, 5, none⟩ = some (.int .i64 0) := cell_of hc0 5
      have f5 : W.frozen? ⟨w.heap.size + 1, 5, none⟩ = false := frozen_of hc0 5
      have y6 : W.cell? ⟨w.heap.size + 1, 6, none⟩ = some (.int .i64 0) := cell_of hc0 6
      have f6 : W.frozen? ⟨w.heap.size + 1, 6, none⟩ = false := frozen_of hc0 6
      have y7 : W.cell? ⟨w.heap.size + 1, 7, none⟩ = some (.int .i64 0) := cell_of hc0 7
      have f7 : W.frozen? ⟨w.heap.size + 1, 7, none⟩ = false := frozen_of hc0 7
      clear hb0 hc0
      go_wp2_with fail
      have hX := store8 W (w.heap.size + 1) 23 _ _ _ _ _ _ _ _ (.int .i64 s.a) (.int .i64 s.b) (.int .i64 s.c) (.int .i64 s.d) (.int .i64 s.e) (.int .i64 s.f) (.int .i64 s.g) (.int .i64 s.h) HC0.out
      have hXb := below8 W (w.heap.size + 1) (.int .i64 s.a) (.int .i64 s.b) (.int .i64 s.c) (.int .i64 s.d) (.int .i64 s.e) (.int .i64 s.f) (.int .i64 s.g) (.int .i64 s.h) (hw.trans (hb.mono (by omega))) (by omega)
      have hXd : ((((((((W.setCell ⟨w.heap.size + 1, 0, none⟩ (.int .i64 s.a)).setCell ⟨w.heap.size + 1, 1, none⟩ (.int .i64 s.b)).setCell ⟨w.heap.size + 1, 2, none⟩ (.int .i64 s.c)).setCell ⟨w.heap.size + 1, 3, none⟩ (.int .i64 s.d)).setCell ⟨w.heap.size + 1, 4, none⟩ (.int .i64 s.e)).setCell ⟨w.heap.size + 1, 5, none⟩ (.int .i64 s.f)).setCell ⟨w.heap.size + 1, 6, none⟩ (.int .i64 s.g)).setCell ⟨w.heap.size + 1, 7, none⟩ (.int .i64 s.h)).heap[w2.heap.size]? = some (.deferred (some [])) := by
        exact (other8 W (w.heap.size + 1) w2.heap.size (.int .i64 s.a) (.int .i64 s.b) (.int .i64 s.c) (.int .i64 s.d) (.int .i64 s.e) (.int .i64 s.f) (.int .i64 s.g) (.int .i64 s.h) (by have := hw.size; omega)).trans HK.out
      generalize ((((((((W.setCell ⟨w.heap.size + 1, 0, none⟩ (.int .i64 s.a)).setCell ⟨w.heap.size + 1, 1, none⟩ (.int .i64 s.b)).setCell ⟨w.heap.size + 1, 2, none⟩ (.int .i64 s.c)).setCell ⟨w.heap.size + 1, 3, none⟩ (.int .i64 s.d)).setCell ⟨w.heap.size + 1, 4, none⟩ (.int .i64 s.e)).setCell ⟨w.heap.size + 1, 5, none⟩ (.int .i64 s.f)).setCell ⟨w.heap.size + 1, 6, none⟩ (.int .i64 s.g)).setCell ⟨w.heap.size + 1, 7, none⟩ (.int .i64 s.h)) = X at hX hXb hXd
      refine ⟨by simp, .inl ⟨_, _, rfl, run_takeDeferred hXd, ?_⟩⟩
      have hp := far_putObj X w2.heap.size (.deferred none)
      refine ⟨_, results29 _ _ (w.heap.size + 1) _ _ _ _ _ _ _ _ _ rfl rfl (hp.heap hX (by omega)), ?_, hXb.trans (hp.to_below hXb.size (by omega))⟩
      have hcz : s.compress (byteAt blk) = s := by unfold Sha.St.compress; rw [HSS.out, hz, Sha.St.add_zero Hs.out]
      rw [hcz]
      rfl
    · have hz8 : eq8 [(S.a : Int), S.b, S.c, S.d, S.e, S.f, S.g, S.h] [0, 0, 0, 0, 0, 0, 0, 0] = false := by
        rw [Bool.eq_false_iff]
        intro h
        rw [eq8_iff] at h
        injection h with a1 h; injection h with a2 h; injection h with a3 h; injection h with a4 h; injection h with a5 h; injection h with a6 h; injection h with a7 h; injection h with a8 h
        apply hz
        cases S
        simp only [Sha.St.zero, Sha.St.mk.injEq]
        simp only at a1 a2 a3 a4 a5 a6 a7 a8
        omega
      have hc0 : W.heap[w.heap.size + 1]? = some (.cells #[.int .i64 0, .int .i64 0, .int .i64 0, .int .i64 0, .int .i64 0, .int .i64 0, .int .i64 0, .int .i64 0] 23 (0, 0)) := (hb.block _ (by omega)).trans KC.out
      have x0 : W.cell? ⟨w1.heap.size, 0, none⟩ = some (.int .u32 s.a) := cell_of Q0.out 0
      have x1 : W.cell? ⟨w1.heap.size, 1, none⟩ = some (.int .u32 s.b) := cell_of Q0.out 1
      have x2 : W.cell? ⟨w1.heap.size, 2, none⟩ = some (.int .u32 s.c) := cell_of Q0.out 2
      have x3 : W.cell? ⟨w1.heap.size, 3, none⟩ = some (.int .u32 s.d) := cell_of Q0.out 3
      have x4 : W.cell? ⟨w1.heap.size, 4, none⟩ = some (.int .u32 s.e) := cell_of Q0.out 4
      have x5 : W.cell? ⟨w1.heap.size, 5, none⟩ = some (.int .u32 s.f) := cell_of Q0.out 5
      have x6 : W.cell? ⟨w1.heap.size, 6, none⟩ = some (.int .u32 s.g) := cell_of Q0.out 6
      have x7 : W.cell? ⟨w1.heap.size, 7, none⟩ = some (.int .u32 s.h) := cell_of Q0.out 7
      have HC0 := Lib.hid hc0
      clear hc0 hz
      go_wp2_with fail
      go_still_tail 4, (by kernel_rfl)
      change wpList _ _ _ _ _ W.drew
      have q1 : W.drew.heap[w1.heap.size + 1]? = some (.cells (row32 S) 83 (0, 0)) := Q1.out
      have q2 : W.drew.heap[w1.heap.size + 1 + 1]? = some (.cells #[.pointer (some ⟨w1.heap.size + 1, 0, none⟩)] 81 (0, 0)) := Q2.out
      have qc : W.drew.heap[w.heap.size + 1]? = some (.cells #[.int .i64 0, .int .i64 0, .int .i64 0, .int .i64 0, .int .i64 0, .int .i64 0, .int .i64 0, .int .i64 0] 23 (0, 0)) := HC0.out
      have qk : W.drew.heap[w2.heap.size]? = some (.deferred (some [])) := HK.out
      have qb : Below w1.heap.size w2 W.drew := hb.drew
      generalize W.drew = Wd at q1 q2 qc qk qb ⊢
      clear x0 x1 x2 x3 x4 x5 x6 x7 d0 d1 d2 d3 d4 d5 d6 d7 c2 hb
      have R1 := Lib.hid q1
      have R2 := Lib.hid q2
      have RC := Lib.hid qc
      have RK := Lib.hid qk
      clear q1 q2 qc qk
      go_wp2_with fail
      refine (add_any (w1.heap.size + 1) 83 S s Wd R1.out).mono ?_
      rintro e W3 ⟨rfl, ha3, hf3⟩
      have c2 : W3.cell? ⟨w1.heap.size + 1 + 1, 0, none⟩ = some (.pointer (some ⟨w1.heap.size + 1, 0, none⟩)) := cell_of (hf3.heap R2.out (by omega)) 0
      have A3 := Lib.hid ha3
      have F3 := Lib.hid hf3
      clear ha3 hf3
      go_wp2_with fail
      refine (told_any (w1.heap.size + 1) 83 (S.add s) (Sha.St.add_ok _ _) W3 A3.out).mono ?_
      rintro e W4 ⟨rfl, hf4⟩
      have hc4 : W4.heap[w.heap.size + 1]? = some (.cells #[.int .i64 0, .int .i64 0, .int .i64 0, .int .i64 0, .int .i64 0, .int .i64 0, .int .i64 0, .int .i64 0] 23 (0, 0)) := hf4.heap (F3.out.heap RC.out (by omega)) (fun e => e)
      have hk4 : W4.heap[w2.heap.size]? = some (.deferred (some [])) := hf4.heap (F3.out.heap RK.out (by omega)) (fun e => e)
      have hb4 : Below w1.heap.size w2 W4 := (qb.trans (F3.out.to_below (by have := qb.size; omega) (by omega))).trans (hf4.to_below (by have := qb.size; have := F3.out.size; omega) (fun _ _ e => e))
      unfold row64
      have y0 : W4.cell? ⟨w.heap.size + 1, 0, none⟩ = some (.int .i64 0) := cell_of hc4 0
      have f0 : W4.frozen? ⟨w.heap.size + 1, 0, none⟩ = false := frozen_of hc4 0
      have y1 : W4.cell? ⟨w.heap.size + 1, 1, none⟩ = some (.int .i64 0) := cell_of hc4 1
      have f1 : W4.frozen? ⟨w.heap.size + 1, 1, none⟩ = false := frozen_of hc4 1
      have y2 : W4.cell? ⟨w.heap.size + 1, 2, none⟩ = some (.int .i64 0) := cell_of hc4 2
      have f2 : W4.frozen? ⟨w.heap.size + 1, 2, none⟩ = false := frozen_of hc4 2
      have y3 : W4.cell? ⟨w.heap.size + 1, 3, none⟩ = some (.int .i64 0) := cell_of hc4 3
      have f3 : W4.frozen? ⟨w.heap.size + 1, 3, none⟩ = false := frozen_of hc4 3
      have y4 : W4.cell? ⟨w.heap.size + 1, 4, none⟩ = some (.int .i64 0) := cell_of hc4 4
      have f4 : W4.frozen? ⟨w.heap.size + 1, 4, none⟩ = false := frozen_of hc4 4
      have y5 : W4.cell? ⟨w.heap.size + 1, 5, none⟩ = some (.int .i64 0) := cell_of hc4 5
      have f5 : W4.frozen? ⟨w.heap.size + 1, 5, none⟩ = false := frozen_of hc4 5
      have y6 : W4.cell? ⟨w.heap.size + 1, 6, none⟩ = some (.int .i64 0) := cell_of hc4 6
      have f6 : W4.frozen? ⟨w.heap.size + 1, 6, none⟩ = false := frozen_of hc4 6
      have y7 : W4.cell? ⟨w.heap.size + 1, 7, none⟩ = some (.int .i64 0) := cell_of hc4 7
      have f7 : W4.frozen? ⟨w.heap.size + 1, 7, none⟩ = false := frozen_of hc4 7
      have HC4 := Lib.hid hc4
      have HK4 := Lib.hid hk4
      clear hc4 hk4 hf4 c2
      go_wp2_with fail
      have hX := store8 W4 (w.heap.size + 1) 23 _ _ _ _ _ _ _ _ (.int .i64 (S.add s).a) (.int .i64 (S.add s).b) (.int .i64 (S.add s).c) (.int .i64 (S.add s).d) (.int .i64 (S.add s).e) (.int .i64 (S.add s).f) (.int .i64 (S.add s).g) (.int .i64 (S.add s).h) HC4.out
      have hXb := below8 W4 (w.heap.size + 1) (.int .i64 (S.add s).a) (.int .i64 (S.add s).b) (.int .i64 (S.add s).c) (.int .i64 (S.add s).d) (.int .i64 (S.add s).e) (.int .i64 (S.add s).f) (.int .i64 (S.add s).g) (.int .i64 (S.add s).h) (hw.trans (hb4.mono (by omega))) (by omega)
      have hXd : ((((((((W4.setCell ⟨w.heap.size + 1, 0, none⟩ (.int .i64 (S.add s).a)).setCell ⟨w.heap.size + 1, 1, none⟩ (.int .i64 (S.add s).b)).setCell ⟨w.heap.size + 1, 2, none⟩ (.int .i64 (S.add s).c)).setCell ⟨w.heap.size + 1, 3, none⟩ (.int .i64 (S.add s).d)).setCell ⟨w.heap.size + 1, 4, none⟩ (.int .i64 (S.add s).e)).setCell ⟨w.heap.size + 1, 5, none⟩ (.int .i64 (S.add s).f)).setCell ⟨w.heap.size + 1, 6, none⟩ (.int .i64 (S.add s).g)).setCell ⟨w.heap.size + 1, 7, none⟩ (.int .i64 (S.add s).h)).heap[w2.heap.size]? = some (.deferred (some [])) := (other8 W4 (w.heap.size + 1) w2.heap.size (.int .i64 (S.add s).a) (.int .i64 (S.add s).b) (.int .i64 (S.add s).c) (.int .i64 (S.add s).d) (.int .i64 (S.add s).e) (.int .i64 (S.add s).f) (.int .i64 (S.add s).g) (.int .i64 (S.add s).h) (by have := hw.size; omega)).trans HK4.out
      generalize ((((((((W4.setCell ⟨w.heap.size + 1, 0, none⟩ (.int .i64 (S.add s).a)).setCell ⟨w.heap.size + 1, 1, none⟩ (.int .i64 (S.add s).b)).setCell ⟨w.heap.size + 1, 2, none⟩ (.int .i64 (S.add s).c)).setCell ⟨w.heap.size + 1, 3, none⟩ (.int .i64 (S.add s).d)).setCell ⟨w.heap.size + 1, 4, none⟩ (.int .i64 (S.add s).e)).setCell ⟨w.heap.size + 1, 5, none⟩ (.int .i64 (S.add s).f)).setCell ⟨w.heap.size + 1, 6, none⟩ (.int .i64 (S.add s).g)).setCell ⟨w.heap.size + 1, 7, none⟩ (.int .i64 (S.add s).h)) = X at hX hXb hXd
      refine ⟨by simp, .inl ⟨_, _, rfl, run_takeDeferred hXd, ?_⟩⟩
      have hp := far_putObj X w2.heap.size (.deferred none)
      refine ⟨_, results29 _ _ (w.heap.size + 1) _ _ _ _ _ _ _ _ _ rfl rfl (hp.heap hX (by omega)), ?_, hXb.trans (hp.to_below hXb.size (by omega))⟩
      have hcz : s.compress (byteAt blk) = S.add s := by unfold Sha.St.compress; rw [HSS.out]
      rw [hcz]
      rfl
end Go.Proofs.YtfafidholldjlaaDoor
