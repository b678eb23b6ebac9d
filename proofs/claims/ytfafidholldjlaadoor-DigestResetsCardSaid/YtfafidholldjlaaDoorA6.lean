/- The state's told and add. -/
import Derived.Test.YtfafidholldjlaaDoorA5
set_option linter.unusedVariables false
set_option linter.unusedSimpArgs false
namespace Go.Proofs.YtfafidholldjlaaDoor
open Go.RowKit
theorem setCell_drewN (w : World) (n : Nat) (a : Addr) (v : Value) : (w.drewN n).setCell a v = (w.setCell a v).drewN n := rfl
attribute [local go_sem] setCell_drewN
theorem drew_heap (w : World) : w.drew.heap = w.heap := rfl
set_option maxRecDepth 100000 in
set_option maxHeartbeats 1600000 in
theorem told_state (b : Nat) (T : TypeId) (s0 s1 s2 s3 s4 s5 s6 s7 : Nat) (w : World) (hB : w.heap[b]? = some (.cells #[.int .u32 s0, .int .u32 s1, .int .u32 s2, .int .u32 s3, .int .u32 s4, .int .u32 s5, .int .u32 s6, .int .u32 s7] T (0, 0)))
    (l0 : s0 < 4294967296) (l1 : s1 < 4294967296) (l2 : s2 < 4294967296) (l3 : s3 < 4294967296) (l4 : s4 < 4294967296) (l5 : s5 < 4294967296) (l6 : s6 < 4294967296) (l7 : s7 < 4294967296) :
    Calls Tryd.prog 67 #[.pointer (some ⟨b, 0, none⟩)] w fun e w' => e = .returned (.agg #[.int .i64 s0, .int .i64 s1, .int .i64 s2, .int .i64 s3, .int .i64 s4, .int .i64 s5, .int .i64 s6, .int .i64 s7]) ∧ Far NoneD w w' := by
  have hb : b < w.heap.size := lt_of_heap hB
  have c0 : w.cell? ⟨b, 0, none⟩ = some (.int .u32 s0) := cell_of hB 0
  have c1 : w.cell? ⟨b, 1, none⟩ = some (.int .u32 s1) := cell_of hB 1
  have c2 : w.cell? ⟨b, 2, none⟩ = some (.int .u32 s2) := cell_of hB 2
  have c3 : w.cell? ⟨b, 3, none⟩ = some (.int .u32 s3) := cell_of hB 3
  have c4 : w.cell? ⟨b, 4, none⟩ = some (.int .u32 s4) := cell_of hB 4
  have c5 : w.cell? ⟨b, 5, none⟩ = some (.int .u32 s5) := cell_of hB 5
  have c6 : w.cell? ⟨b, 6, none⟩ = some (.int .u32 s6) := cell_of hB 6
  have c7 : w.cell? ⟨b, 7, none⟩ = some (.int .u32 s7) := cell_of hB 7
  clear hB
  go_enter Tryd.func67, Tryd.ntmps67
  go_wp2
  refine wp_loop_rounds 9 ?_
  iterate 8 (rw [rounds_succ]; go_wp2_with fail; go_quiet (fail); go_wp2_with fail)
  rw [rounds_succ]
  go_wp2
  exact bodyPost_ret (v := .agg #[.int .i64 s0, .int .i64 s1, .int .i64 s2, .int .i64 s3, .int .i64 s4, .int .i64 s5, .int .i64 s6, .int .i64 s7]) (by simp [results, Tryd.results67, go_sem]) rfl ⟨rfl, (((Far.refl _ _).alloc _).alloc _).drewN _⟩
set_option maxRecDepth 100000 in
set_option maxHeartbeats 3200000 in
theorem add_state (b : Nat) (T : TypeId) (s0 s1 s2 s3 s4 s5 s6 s7 : Nat) (t0 t1 t2 t3 t4 t5 t6 t7 : Nat) (w : World) (hB : w.heap[b]? = some (.cells #[.int .u32 s0, .int .u32 s1, .int .u32 s2, .int .u32 s3, .int .u32 s4, .int .u32 s5, .int .u32 s6, .int .u32 s7] T (0, 0))) :
    Calls Tryd.prog 69 #[.pointer (some ⟨b, 0, none⟩), .agg #[.int .u32 t0, .int .u32 t1, .int .u32 t2, .int .u32 t3, .int .u32 t4, .int .u32 t5, .int .u32 t6, .int .u32 t7]] w fun e w' => e = .returned (.tuple #[]) ∧ w'.heap[b]? = some (.cells #[.int .u32 (((s0 : Int) + (t0 : Int)) % 4294967296), .int .u32 (((s1 : Int) + (t1 : Int)) % 4294967296), .int .u32 (((s2 : Int) + (t2 : Int)) % 4294967296), .int .u32 (((s3 : Int) + (t3 : Int)) % 4294967296), .int .u32 (((s4 : Int) + (t4 : Int)) % 4294967296), .int .u32 (((s5 : Int) + (t5 : Int)) % 4294967296), .int .u32 (((s6 : Int) + (t6 : Int)) % 4294967296), .int .u32 (((s7 : Int) + (t7 : Int)) % 4294967296)] T (0, 0)) ∧ Far (· = b) w w' := by
  have hb : b < w.heap.size := lt_of_heap hB
  have c0 : w.cell? ⟨b, 0, none⟩ = some (.int .u32 s0) := cell_of hB 0
  have f0 : w.frozen? ⟨b, 0, none⟩ = false := frozen_of hB 0
  have c1 : w.cell? ⟨b, 1, none⟩ = some (.int .u32 s1) := cell_of hB 1
  have f1 : w.frozen? ⟨b, 1, none⟩ = false := frozen_of hB 1
  have c2 : w.cell? ⟨b, 2, none⟩ = some (.int .u32 s2) := cell_of hB 2
  have f2 : w.frozen? ⟨b, 2, none⟩ = false := frozen_of hB 2
  have c3 : w.cell? ⟨b, 3, none⟩ = some (.int .u32 s3) := cell_of hB 3
  have f3 : w.frozen? ⟨b, 3, none⟩ = false := frozen_of hB 3
  have c4 : w.cell? ⟨b, 4, none⟩ = some (.int .u32 s4) := cell_of hB 4
  have f4 : w.frozen? ⟨b, 4, none⟩ = false := frozen_of hB 4
  have c5 : w.cell? ⟨b, 5, none⟩ = some (.int .u32 s5) := cell_of hB 5
  have f5 : w.frozen? ⟨b, 5, none⟩ = false := frozen_of hB 5
  have c6 : w.cell? ⟨b, 6, none⟩ = some (.int .u32 s6) := cell_of hB 6
  have f6 : w.frozen? ⟨b, 6, none⟩ = false := frozen_of hB 6
  have c7 : w.cell? ⟨b, 7, none⟩ = some (.int .u32 s7) := cell_of hB 7
  have f7 : w.frozen? ⟨b, 7, none⟩ = false := frozen_of hB 7
  have hne : w.heap.size ≠ b := by omega
  have HB := Lib.hid hB
  clear hB
  go_enter Tryd.func69, Tryd.ntmps69
  go_wp2
  refine wp_loop_rounds 9 ?_
  iterate 8 (rw [rounds_succ]; go_wp2_with fail; go_region; go_wp2_with fail)
  rw [rounds_succ]
  go_wp2
  go_end0
  have q0 : (w.setCell ⟨b, 0, none⟩ (.int .u32 (((s0 : Int) + (t0 : Int)) % 4294967296))).heap[b]? = some (.cells #[(.int .u32 (((s0 : Int) + (t0 : Int)) % 4294967296)), .int .u32 s1, .int .u32 s2, .int .u32 s3, .int .u32 s4, .int .u32 s5, .int .u32 s6, .int .u32 s7] T (0, 0)) := setCell_heap HB.out 0 _
  have q1 : ((w.setCell ⟨b, 0, none⟩ (.int .u32 (((s0 : Int) + (t0 : Int)) % 4294967296))).setCell ⟨b, 1, none⟩ (.int .u32 (((s1 : Int) + (t1 : Int)) % 4294967296))).heap[b]? = some (.cells #[(.int .u32 (((s0 : Int) + (t0 : Int)) % 4294967296)), (.int .u32 (((s1 : Int) + (t1 : Int)) % 4294967296)), .int .u32 s2, .int .u32 s3, .int .u32 s4, .int .u32 s5, .int .u32 s6, .int .u32 s7] T (0, 0)) := setCell_heap q0 1 _
  have q2 : (((w.setCell ⟨b, 0, none⟩ (.int .u32 (((s0 : Int) + (t0 : Int)) % 4294967296))).setCell ⟨b, 1, none⟩ (.int .u32 (((s1 : Int) + (t1 : Int)) % 4294967296))).setCell ⟨b, 2, none⟩ (.int .u32 (((s2 : Int) + (t2 : Int)) % 4294967296))).heap[b]? = some (.cells #[(.int .u32 (((s0 : Int) + (t0 : Int)) % 4294967296)), (.int .u32 (((s1 : Int) + (t1 : Int)) % 4294967296)), (.int .u32 (((s2 : Int) + (t2 : Int)) % 4294967296)), .int .u32 s3, .int .u32 s4, .int .u32 s5, .int .u32 s6, .int .u32 s7] T (0, 0)) := setCell_heap q1 2 _
  have q3 : ((((w.setCell ⟨b, 0, none⟩ (.int .u32 (((s0 : Int) + (t0 : Int)) % 4294967296))).setCell ⟨b, 1, none⟩ (.int .u32 (((s1 : Int) + (t1 : Int)) % 4294967296))).setCell ⟨b, 2, none⟩ (.int .u32 (((s2 : Int) + (t2 : Int)) % 4294967296))).setCell ⟨b, 3, none⟩ (.int .u32 (((s3 : Int) + (t3 : Int)) % 4294967296))).heap[b]? = some (.cells #[(.int .u32 (((s0 : Int) + (t0 : Int)) % 4294967296)), (.int .u32 (((s1 : Int) + (t1 : Int)) % 4294967296)), (.int .u32 (((s2 : Int) + (t2 : Int)) % 4294967296)), (.int .u32 (((s3 : Int) + (t3 : Int)) % 4294967296)), .int .u32 s4, .int .u32 s5, .int .u32 s6, .int .u32 s7] T (0, 0)) := setCell_heap q2 3 _
  have q4 : (((((w.setCell ⟨b, 0, none⟩ (.int .u32 (((s0 : Int) + (t0 : Int)) % 4294967296))).setCell ⟨b, 1, none⟩ (.int .u32 (((s1 : Int) + (t1 : Int)) % 4294967296))).setCell ⟨b, 2, none⟩ (.int .u32 (((s2 : Int) + (t2 : Int)) % 4294967296))).setCell ⟨b, 3, none⟩ (.int .u32 (((s3 : Int) + (t3 : Int)) % 4294967296))).setCell ⟨b, 4, none⟩ (.int .u32 (((s4 : Int) + (t4 : Int)) % 4294967296))).heap[b]? = some (.cells #[(.int .u32 (((s0 : Int) + (t0 : Int)) % 4294967296)), (.int .u32 (((s1 : Int) + (t1 : Int)) % 4294967296)), (.int .u32 (((s2 : Int) + (t2 : Int)) % 4294967296)), (.int .u32 (((s3 : Int) + (t3 : Int)) % 4294967296)), (.int .u32 (((s4 : Int) + (t4 : Int)) % 4294967296)), .int .u32 s5, .int .u32 s6, .int .u32 s7] T (0, 0)) := setCell_heap q3 4 _
  have q5 : ((((((w.setCell ⟨b, 0, none⟩ (.int .u32 (((s0 : Int) + (t0 : Int)) % 4294967296))).setCell ⟨b, 1, none⟩ (.int .u32 (((s1 : Int) + (t1 : Int)) % 4294967296))).setCell ⟨b, 2, none⟩ (.int .u32 (((s2 : Int) + (t2 : Int)) % 4294967296))).setCell ⟨b, 3, none⟩ (.int .u32 (((s3 : Int) + (t3 : Int)) % 4294967296))).setCell ⟨b, 4, none⟩ (.int .u32 (((s4 : Int) + (t4 : Int)) % 4294967296))).setCell ⟨b, 5, none⟩ (.int .u32 (((s5 : Int) + (t5 : Int)) % 4294967296))).heap[b]? = some (.cells #[(.int .u32 (((s0 : Int) + (t0 : Int)) % 4294967296)), (.int .u32 (((s1 : Int) + (t1 : Int)) % 4294967296)), (.int .u32 (((s2 : Int) + (t2 : Int)) % 4294967296)), (.int .u32 (((s3 : Int) + (t3 : Int)) % 4294967296)), (.int .u32 (((s4 : Int) + (t4 : Int)) % 4294967296)), (.int .u32 (((s5 : Int) + (t5 : Int)) % 4294967296)), .int .u32 s6, .int .u32 s7] T (0, 0)) := setCell_heap q4 5 _
  have q6 : (((((((w.setCell ⟨b, 0, none⟩ (.int .u32 (((s0 : Int) + (t0 : Int)) % 4294967296))).setCell ⟨b, 1, none⟩ (.int .u32 (((s1 : Int) + (t1 : Int)) % 4294967296))).setCell ⟨b, 2, none⟩ (.int .u32 (((s2 : Int) + (t2 : Int)) % 4294967296))).setCell ⟨b, 3, none⟩ (.int .u32 (((s3 : Int) + (t3 : Int)) % 4294967296))).setCell ⟨b, 4, none⟩ (.int .u32 (((s4 : Int) + (t4 : Int)) % 4294967296))).setCell ⟨b, 5, none⟩ (.int .u32 (((s5 : Int) + (t5 : Int)) % 4294967296))).setCell ⟨b, 6, none⟩ (.int .u32 (((s6 : Int) + (t6 : Int)) % 4294967296))).heap[b]? = some (.cells #[(.int .u32 (((s0 : Int) + (t0 : Int)) % 4294967296)), (.int .u32 (((s1 : Int) + (t1 : Int)) % 4294967296)), (.int .u32 (((s2 : Int) + (t2 : Int)) % 4294967296)), (.int .u32 (((s3 : Int) + (t3 : Int)) % 4294967296)), (.int .u32 (((s4 : Int) + (t4 : Int)) % 4294967296)), (.int .u32 (((s5 : Int) + (t5 : Int)) % 4294967296)), (.int .u32 (((s6 : Int) + (t6 : Int)) % 4294967296)), .int .u32 s7] T (0, 0)) := setCell_heap q5 6 _
  have q7 : ((((((((w.setCell ⟨b, 0, none⟩ (.int .u32 (((s0 : Int) + (t0 : Int)) % 4294967296))).setCell ⟨b, 1, none⟩ (.int .u32 (((s1 : Int) + (t1 : Int)) % 4294967296))).setCell ⟨b, 2, none⟩ (.int .u32 (((s2 : Int) + (t2 : Int)) % 4294967296))).setCell ⟨b, 3, none⟩ (.int .u32 (((s3 : Int) + (t3 : Int)) % 4294967296))).setCell ⟨b, 4, none⟩ (.int .u32 (((s4 : Int) + (t4 : Int)) % 4294967296))).setCell ⟨b, 5, none⟩ (.int .u32 (((s5 : Int) + (t5 : Int)) % 4294967296))).setCell ⟨b, 6, none⟩ (.int .u32 (((s6 : Int) + (t6 : Int)) % 4294967296))).setCell ⟨b, 7, none⟩ (.int .u32 (((s7 : Int) + (t7 : Int)) % 4294967296))).heap[b]? = some (.cells #[(.int .u32 (((s0 : Int) + (t0 : Int)) % 4294967296)), (.int .u32 (((s1 : Int) + (t1 : Int)) % 4294967296)), (.int .u32 (((s2 : Int) + (t2 : Int)) % 4294967296)), (.int .u32 (((s3 : Int) + (t3 : Int)) % 4294967296)), (.int .u32 (((s4 : Int) + (t4 : Int)) % 4294967296)), (.int .u32 (((s5 : Int) + (t5 : Int)) % 4294967296)), (.int .u32 (((s6 : Int) + (t6 : Int)) % 4294967296)), (.int .u32 (((s7 : Int) + (t7 : Int)) % 4294967296))] T (0, 0)) := setCell_heap q6 7 _
  refine ⟨rfl, ?_, ?_⟩
  · simp only [drew_heap]
    exact alloc_heap_old _ q7
  · iterate 8 refine Far.drew ?_
    refine Far.alloc ?_ _
    iterate 8 (refine Far.setCell ?_ ?_ _; rotate_left; (intro _; rfl))
    exact Far.refl _ _

end Go.Proofs.YtfafidholldjlaaDoor
