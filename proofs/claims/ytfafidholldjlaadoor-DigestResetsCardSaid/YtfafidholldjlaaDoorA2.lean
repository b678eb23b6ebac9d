/- Walks: of. -/
import Derived.Test.YtfafidholldjlaaDoorBase
import Derived.Test.YtfafidholldjlaaDoorSpec
import Derived.Lib.Hide
set_option linter.unusedVariables false
set_option linter.unusedSimpArgs false
namespace Go.Proofs.YtfafidholldjlaaDoor
open Go.RowKit
set_option maxRecDepth 100000 in
set_option maxHeartbeats 1000000 in
theorem of_ok (s0 s1 s2 s3 s4 s5 s6 s7 : Int) (w : World) (h0 : 0 ≤ s0) (g0 : s0 ≤ 4294967295) (h1 : 0 ≤ s1) (g1 : s1 ≤ 4294967295) (h2 : 0 ≤ s2) (g2 : s2 ≤ 4294967295) (h3 : 0 ≤ s3) (g3 : s3 ≤ 4294967295) (h4 : 0 ≤ s4) (g4 : s4 ≤ 4294967295) (h5 : 0 ≤ s5) (g5 : s5 ≤ 4294967295) (h6 : 0 ≤ s6) (g6 : s6 ≤ 4294967295) (h7 : 0 ≤ s7) (g7 : s7 ≤ 4294967295) :
    Calls Tryd.prog 65 #[.agg #[.int .i64 s0, .int .i64 s1, .int .i64 s2, .int .i64 s3, .int .i64 s4, .int .i64 s5, .int .i64 s6, .int .i64 s7]] w fun e w' => e = .returned (.tuple #[.agg #[.int .u32 s0, .int .u32 s1, .int .u32 s2, .int .u32 s3, .int .u32 s4, .int .u32 s5, .int .u32 s6, .int .u32 s7], .nilIface]) ∧ Below w.heap.size w w' := by
  go_enter Tryd.func65, Tryd.ntmps65
  go_wp2
  refine wp_loop_rounds 9 ?_
  iterate 9 (rw [rounds_succ]; go_wp2)
  exact bodyPost_ret (v := .tuple #[.agg #[.int .u32 s0, .int .u32 s1, .int .u32 s2, .int .u32 s3, .int .u32 s4, .int .u32 s5, .int .u32 s6, .int .u32 s7], .nilIface]) (by simp [results, Tryd.results65, go_sem]) rfl ⟨rfl, (((Below.refl _ _).alloc (Nat.le_refl _) _).alloc (by simp) _).alloc (by simp; omega) _⟩
set_option maxRecDepth 100000 in
set_option maxHeartbeats 1000000 in
theorem of_lo0 (s0 s1 s2 s3 s4 s5 s6 s7 : Int) (w : World) (t : TypeId) (p : Addr) (hz : 0 < w.heap.size) (hw : w.cell? ⟨0, 0, none⟩ = some (.iface t (.pointer (some p))))  (b : s0 < 0) :
    Calls Tryd.prog 65 #[.agg #[.int .i64 s0, .int .i64 s1, .int .i64 s2, .int .i64 s3, .int .i64 s4, .int .i64 s5, .int .i64 s6, .int .i64 s7]] w fun e w' => e = .returned (.tuple #[.agg #[.int .u32 0, .int .u32 0, .int .u32 0, .int .u32 0, .int .u32 0, .int .u32 0, .int .u32 0, .int .u32 0], .iface t (.pointer (some p))]) ∧ Below w.heap.size w w' := by
  go_enter Tryd.func65, Tryd.ntmps65
  go_wp2
  refine wp_loop_rounds 1 ?_
  iterate 1 (rw [rounds_succ]; go_wp2)
  go_region
  all_goals go_wp2
  all_goals exact bodyPost_ret (v := .tuple #[.agg #[.int .u32 0, .int .u32 0, .int .u32 0, .int .u32 0, .int .u32 0, .int .u32 0, .int .u32 0, .int .u32 0], .iface t (.pointer (some p))]) (by simp [results, Tryd.results65, go_sem]) rfl ⟨rfl, by first | exact ((((Below.refl _ _).alloc (Nat.le_refl _) _).alloc (by simp) _).alloc (by simp; omega) _).drew | exact ((((Below.refl _ _).alloc (Nat.le_refl _) _).alloc (by simp) _).alloc (by simp; omega) _)⟩
set_option maxRecDepth 100000 in
set_option maxHeartbeats 1000000 in
theorem of_hi0 (s0 s1 s2 s3 s4 s5 s6 s7 : Int) (w : World) (t : TypeId) (p : Addr) (hz : 0 < w.heap.size) (hw : w.cell? ⟨0, 0, none⟩ = some (.iface t (.pointer (some p))))  (b : 4294967295 < s0) :
    Calls Tryd.prog 65 #[.agg #[.int .i64 s0, .int .i64 s1, .int .i64 s2, .int .i64 s3, .int .i64 s4, .int .i64 s5, .int .i64 s6, .int .i64 s7]] w fun e w' => e = .returned (.tuple #[.agg #[.int .u32 0, .int .u32 0, .int .u32 0, .int .u32 0, .int .u32 0, .int .u32 0, .int .u32 0, .int .u32 0], .iface t (.pointer (some p))]) ∧ Below w.heap.size w w' := by
  have p0 : 0 ≤ s0 := by omega
  go_enter Tryd.func65, Tryd.ntmps65
  go_wp2
  refine wp_loop_rounds 1 ?_
  iterate 1 (rw [rounds_succ]; go_wp2)
  go_region
  all_goals go_wp2
  all_goals exact bodyPost_ret (v := .tuple #[.agg #[.int .u32 0, .int .u32 0, .int .u32 0, .int .u32 0, .int .u32 0, .int .u32 0, .int .u32 0, .int .u32 0], .iface t (.pointer (some p))]) (by simp [results, Tryd.results65, go_sem]) rfl ⟨rfl, by first | exact ((((Below.refl _ _).alloc (Nat.le_refl _) _).alloc (by simp) _).alloc (by simp; omega) _).drew | exact ((((Below.refl _ _).alloc (Nat.le_refl _) _).alloc (by simp) _).alloc (by simp; omega) _)⟩
set_option maxRecDepth 100000 in
set_option maxHeartbeats 1000000 in
theorem of_lo1 (s0 s1 s2 s3 s4 s5 s6 s7 : Int) (w : World) (t : TypeId) (p : Addr) (hz : 0 < w.heap.size) (hw : w.cell? ⟨0, 0, none⟩ = some (.iface t (.pointer (some p)))) (h0 : 0 ≤ s0) (g0 : s0 ≤ 4294967295) (b : s1 < 0) :
    Calls Tryd.prog 65 #[.agg #[.int .i64 s0, .int .i64 s1, .int .i64 s2, .int .i64 s3, .int .i64 s4, .int .i64 s5, .int .i64 s6, .int .i64 s7]] w fun e w' => e = .returned (.tuple #[.agg #[.int .u32 0, .int .u32 0, .int .u32 0, .int .u32 0, .int .u32 0, .int .u32 0, .int .u32 0, .int .u32 0], .iface t (.pointer (some p))]) ∧ Below w.heap.size w w' := by
  go_enter Tryd.func65, Tryd.ntmps65
  go_wp2
  refine wp_loop_rounds 2 ?_
  iterate 2 (rw [rounds_succ]; go_wp2)
  go_region
  all_goals go_wp2
  all_goals exact bodyPost_ret (v := .tuple #[.agg #[.int .u32 0, .int .u32 0, .int .u32 0, .int .u32 0, .int .u32 0, .int .u32 0, .int .u32 0, .int .u32 0], .iface t (.pointer (some p))]) (by simp [results, Tryd.results65, go_sem]) rfl ⟨rfl, by first | exact ((((Below.refl _ _).alloc (Nat.le_refl _) _).alloc (by simp) _).alloc (by simp; omega) _).drew | exact ((((Below.refl _ _).alloc (Nat.le_refl _) _).alloc (by simp) _).alloc (by simp; omega) _)⟩
set_option maxRecDepth 100000 in
set_option maxHeartbeats 1000000 in
theorem of_hi1 (s0 s1 s2 s3 s4 s5 s6 s7 : Int) (w : World) (t : TypeId) (p : Addr) (hz : 0 < w.heap.size) (hw : w.cell? ⟨0, 0, none⟩ = some (.iface t (.pointer (some p)))) (h0 : 0 ≤ s0) (g0 : s0 ≤ 4294967295) (b : 4294967295 < s1) :
    Calls Tryd.prog 65 #[.agg #[.int .i64 s0, .int .i64 s1, .int .i64 s2, .int .i64 s3, .int .i64 s4, .int .i64 s5, .int .i64 s6, .int .i64 s7]] w fun e w' => e = .returned (.tuple #[.agg #[.int .u32 0, .int .u32 0, .int .u32 0, .int .u32 0, .int .u32 0, .int .u32 0, .int .u32 0, .int .u32 0], .iface t (.pointer (some p))]) ∧ Below w.heap.size w w' := by
  have p1 : 0 ≤ s1 := by omega
  go_enter Tryd.func65, Tryd.ntmps65
  go_wp2
  refine wp_loop_rounds 2 ?_
  iterate 2 (rw [rounds_succ]; go_wp2)
  go_region
  all_goals go_wp2
  all_goals exact bodyPost_ret (v := .tuple #[.agg #[.int .u32 0, .int .u32 0, .int .u32 0, .int .u32 0, .int .u32 0, .int .u32 0, .int .u32 0, .int .u32 0], .iface t (.pointer (some p))]) (by simp [results, Tryd.results65, go_sem]) rfl ⟨rfl, by first | exact ((((Below.refl _ _).alloc (Nat.le_refl _) _).alloc (by simp) _).alloc (by simp; omega) _).drew | exact ((((Below.refl _ _).alloc (Nat.le_refl _) _).alloc (by simp) _).alloc (by simp; omega) _)⟩
set_option maxRecDepth 100000 in
set_option maxHeartbeats 1000000 in
theorem of_lo2 (s0 s1 s2 s3 s4 s5 s6 s7 : Int) (w : World) (t : TypeId) (p : Addr) (hz : 0 < w.heap.size) (hw : w.cell? ⟨0, 0, none⟩ = some (.iface t (.pointer (some p)))) (h0 : 0 ≤ s0) (g0 : s0 ≤ 4294967295) (h1 : 0 ≤ s1) (g1 : s1 ≤ 4294967295) (b : s2 < 0) :
    Calls Tryd.prog 65 #[.agg #[.int .i64 s0, .int .i64 s1, .int .i64 s2, .int .i64 s3, .int .i64 s4, .int .i64 s5, .int .i64 s6, .int .i64 s7]] w fun e w' => e = .returned (.tuple #[.agg #[.int .u32 0, .int .u32 0, .int .u32 0, .int .u32 0, .int .u32 0, .int .u32 0, .int .u32 0, .int .u32 0], .iface t (.pointer (some p))]) ∧ Below w.heap.size w w' := by
  go_enter Tryd.func65, Tryd.ntmps65
  go_wp2
  refine wp_loop_rounds 3 ?_
  iterate 3 (rw [rounds_succ]; go_wp2)
  go_region
  all_goals go_wp2
  all_goals exact bodyPost_ret (v := .tuple #[.agg #[.int .u32 0, .int .u32 0, .int .u32 0, .int .u32 0, .int .u32 0, .int .u32 0, .int .u32 0, .int .u32 0], .iface t (.pointer (some p))]) (by simp [results, Tryd.results65, go_sem]) rfl ⟨rfl, by first | exact ((((Below.refl _ _).alloc (Nat.le_refl _) _).alloc (by simp) _).alloc (by simp; omega) _).drew | exact ((((Below.refl _ _).alloc (Nat.le_refl _) _).alloc (by simp) _).alloc (by simp; omega) _)⟩
set_option maxRecDepth 100000 in
set_option maxHeartbeats 1000000 in
theorem of_hi2 (s0 s1 s2 s3 s4 s5 s6 s7 : Int) (w : World) (t : TypeId) (p : Addr) (hz : 0 < w.heap.size) (hw : w.cell? ⟨0, 0, none⟩ = some (.iface t (.pointer (some p)))) (h0 : 0 ≤ s0) (g0 : s0 ≤ 4294967295) (h1 : 0 ≤ s1) (g1 : s1 ≤ 4294967295) (b : 4294967295 < s2) :
    Calls Tryd.prog 65 #[.agg #[.int .i64 s0, .int .i64 s1, .int .i64 s2, .int .i64 s3, .int .i64 s4, .int .i64 s5, .int .i64 s6, .int .i64 s7]] w fun e w' => e = .returned (.tuple #[.agg #[.int .u32 0, .int .u32 0, .int .u32 0, .int .u32 0, .int .u32 0, .int .u32 0, .int .u32 0, .int .u32 0], .iface t (.pointer (some p))]) ∧ Below w.heap.size w w' := by
  have p2 : 0 ≤ s2 := by omega
  go_enter Tryd.func65, Tryd.ntmps65
  go_wp2
  refine wp_loop_rounds 3 ?_
  iterate 3 (rw [rounds_succ]; go_wp2)
  go_region
  all_goals go_wp2
  all_goals exact bodyPost_ret (v := .tuple #[.agg #[.int .u32 0, .int .u32 0, .int .u32 0, .int .u32 0, .int .u32 0, .int .u32 0, .int .u32 0, .int .u32 0], .iface t (.pointer (some p))]) (by simp [results, Tryd.results65, go_sem]) rfl ⟨rfl, by first | exact ((((Below.refl _ _).alloc (Nat.le_refl _) _).alloc (by simp) _).alloc (by simp; omega) _).drew | exact ((((Below.refl _ _).alloc (Nat.le_refl _) _).alloc (by simp) _).alloc (by simp; omega) _)⟩
set_option maxRecDepth 100000 in
set_option maxHeartbeats 1000000 in
theorem of_lo3 (s0 s1 s2 s3 s4 s5 s6 s7 : Int) (w : World) (t : TypeId) (p : Addr) (hz : 0 < w.heap.size) (hw : w.cell? ⟨0, 0, none⟩ = some (.iface t (.pointer (some p)))) (h0 : 0 ≤ s0) (g0 : s0 ≤ 4294967295) (h1 : 0 ≤ s1) (g1 : s1 ≤ 4294967295) (h2 : 0 ≤ s2) (g2 : s2 ≤ 4294967295) (b : s3 < 0) :
    Calls Tryd.prog 65 #[.agg #[.int .i64 s0, .int .i64 s1, .int .i64 s2, .int .i64 s3, .int .i64 s4, .int .i64 s5, .int .i64 s6, .int .i64 s7]] w fun e w' => e = .returned (.tuple #[.agg #[.int .u32 0, .int .u32 0, .int .u32 0, .int .u32 0, .int .u32 0, .int .u32 0, .int .u32 0, .int .u32 0], .iface t (.pointer (some p))]) ∧ Below w.heap.size w w' := by
  go_enter Tryd.func65, Tryd.ntmps65
  go_wp2
  refine wp_loop_rounds 4 ?_
  iterate 4 (rw [rounds_succ]; go_wp2)
  go_region
  all_goals go_wp2
  all_goals exact bodyPost_ret (v := .tuple #[.agg #[.int .u32 0, .int .u32 0, .int .u32 0, .int .u32 0, .int .u32 0, .int .u32 0, .int .u32 0, .int .u32 0], .iface t (.pointer (some p))]) (by simp [results, Tryd.results65, go_sem]) rfl ⟨rfl, by first | exact ((((Below.refl _ _).alloc (Nat.le_refl _) _).alloc (by simp) _).alloc (by simp; omega) _).drew | exact ((((Below.refl _ _).alloc (Nat.le_refl _) _).alloc (by simp) _).alloc (by simp; omega) _)⟩
set_option maxRecDepth 100000 in
set_option maxHeartbeats 1000000 in
theorem of_hi3 (s0 s1 s2 s3 s4 s5 s6 s7 : Int) (w : World) (t : TypeId) (p : Addr) (hz : 0 < w.heap.size) (hw : w.cell? ⟨0, 0, none⟩ = some (.iface t (.pointer (some p)))) (h0 : 0 ≤ s0) (g0 : s0 ≤ 4294967295) (h1 : 0 ≤ s1) (g1 : s1 ≤ 4294967295) (h2 : 0 ≤ s2) (g2 : s2 ≤ 4294967295) (b : 4294967295 < s3) :
    Calls Tryd.prog 65 #[.agg #[.int .i64 s0, .int .i64 s1, .int .i64 s2, .int .i64 s3, .int .i64 s4, .int .i64 s5, .int .i64 s6, .int .i64 s7]] w fun e w' => e = .returned (.tuple #[.agg #[.int .u32 0, .int .u32 0, .int .u32 0, .int .u32 0, .int .u32 0, .int .u32 0, .int .u32 0, .int .u32 0], .iface t (.pointer (some p))]) ∧ Below w.heap.size w w' := by
  have p3 : 0 ≤ s3 := by omega
  go_enter Tryd.func65, Tryd.ntmps65
  go_wp2
  refine wp_loop_rounds 4 ?_
  iterate 4 (rw [rounds_succ]; go_wp2)
  go_region
  all_goals go_wp2
  all_goals exact bodyPost_ret (v := .tuple #[.agg #[.int .u32 0, .int .u32 0, .int .u32 0, .int .u32 0, .int .u32 0, .int .u32 0, .int .u32 0, .int .u32 0], .iface t (.pointer (some p))]) (by simp [results, Tryd.results65, go_sem]) rfl ⟨rfl, by first | exact ((((Below.refl _ _).alloc (Nat.le_refl _) _).alloc (by simp) _).alloc (by simp; omega) _).drew | exact ((((Below.refl _ _).alloc (Nat.le_refl _) _).alloc (by simp) _).alloc (by simp; omega) _)⟩
set_option maxRecDepth 100000 in
set_option maxHeartbeats 1000000 in
theorem of_lo4 (s0 s1 s2 s3 s4 s5 s6 s7 : Int) (w : World) (t : TypeId) (p : Addr) (hz : 0 < w.heap.size) (hw : w.cell? ⟨0, 0, none⟩ = some (.iface t (.pointer (some p)))) (h0 : 0 ≤ s0) (g0 : s0 ≤ 4294967295) (h1 : 0 ≤ s1) (g1 : s1 ≤ 4294967295) (h2 : 0 ≤ s2) (g2 : s2 ≤ 4294967295) (h3 : 0 ≤ s3) (g3 : s3 ≤ 4294967295) (b : s4 < 0) :
    Calls Tryd.prog 65 #[.agg #[.int .i64 s0, .int .i64 s1, .int .i64 s2, .int .i64 s3, .int .i64 s4, .int .i64 s5, .int .i64 s6, .int .i64 s7]] w fun e w' => e = .returned (.tuple #[.agg #[.int .u32 0, .int .u32 0, .int .u32 0, .int .u32 0, .int .u32 0, .int .u32 0, .int .u32 0, .int .u32 0], .iface t (.pointer (some p))]) ∧ Below w.heap.size w w' := by
  go_enter Tryd.func65, Tryd.ntmps65
  go_wp2
  refine wp_loop_rounds 5 ?_
  iterate 5 (rw [rounds_succ]; go_wp2)
  go_region
  all_goals go_wp2
  all_goals exact bodyPost_ret (v := .tuple #[.agg #[.int .u32 0, .int .u32 0, .int .u32 0, .int .u32 0, .int .u32 0, .int .u32 0, .int .u32 0, .int .u32 0], .iface t (.pointer (some p))]) (by simp [results, Tryd.results65, go_sem]) rfl ⟨rfl, by first | exact ((((Below.refl _ _).alloc (Nat.le_refl _) _).alloc (by simp) _).alloc (by simp; omega) _).drew | exact ((((Below.refl _ _).alloc (Nat.le_refl _) _).alloc (by simp) _).alloc (by simp; omega) _)⟩
set_option maxRecDepth 100000 in
set_option maxHeartbeats 1000000 in
theorem of_hi4 (s0 s1 s2 s3 s4 s5 s6 s7 : Int) (w : World) (t : TypeId) (p : Addr) (hz : 0 < w.heap.size) (hw : w.cell? ⟨0, 0, none⟩ = some (.iface t (.pointer (some p)))) (h0 : 0 ≤ s0) (g0 : s0 ≤ 4294967295) (h1 : 0 ≤ s1) (g1 : s1 ≤ 4294967295) (h2 : 0 ≤ s2) (g2 : s2 ≤ 4294967295) (h3 : 0 ≤ s3) (g3 : s3 ≤ 4294967295) (b : 4294967295 < s4) :
    Calls Tryd.prog 65 #[.agg #[.int .i64 s0, .int .i64 s1, .int .i64 s2, .int .i64 s3, .int .i64 s4, .int .i64 s5, .int .i64 s6, .int .i64 s7]] w fun e w' => e = .returned (.tuple #[.agg #[.int .u32 0, .int .u32 0, .int .u32 0, .int .u32 0, .int .u32 0, .int .u32 0, .int .u32 0, .int .u32 0], .iface t (.pointer (some p))]) ∧ Below w.heap.size w w' := by
  have p4 : 0 ≤ s4 := by omega
  go_enter Tryd.func65, Tryd.ntmps65
  go_wp2
  refine wp_loop_rounds 5 ?_
  iterate 5 (rw [rounds_succ]; go_wp2)
  go_region
  all_goals go_wp2
  all_goals exact bodyPost_ret (v := .tuple #[.agg #[.int .u32 0, .int .u32 0, .int .u32 0, .int .u32 0, .int .u32 0, .int .u32 0, .int .u32 0, .int .u32 0], .iface t (.pointer (some p))]) (by simp [results, Tryd.results65, go_sem]) rfl ⟨rfl, by first | exact ((((Below.refl _ _).alloc (Nat.le_refl _) _).alloc (by simp) _).alloc (by simp; omega) _).drew | exact ((((Below.refl _ _).alloc (Nat.le_refl _) _).alloc (by simp) _).alloc (by simp; omega) _)⟩
set_option maxRecDepth 100000 in
set_option maxHeartbeats 1000000 in
theorem of_lo5 (s0 s1 s2 s3 s4 s5 s6 s7 : Int) (w : World) (t : TypeId) (p : Addr) (hz : 0 < w.heap.size) (hw : w.cell? ⟨0, 0, none⟩ = some (.iface t (.pointer (some p)))) (h0 : 0 ≤ s0) (g0 : s0 ≤ 4294967295) (h1 : 0 ≤ s1) (g1 : s1 ≤ 4294967295) (h2 : 0 ≤ s2) (g2 : s2 ≤ 4294967295) (h3 : 0 ≤ s3) (g3 : s3 ≤ 4294967295) (h4 : 0 ≤ s4) (g4 : s4 ≤ 4294967295) (b : s5 < 0) :
    Calls Tryd.prog 65 #[.agg #[.int .i64 s0, .int .i64 s1, .int .i64 s2, .int .i64 s3, .int .i64 s4, .int .i64 s5, .int .i64 s6, .int .i64 s7]] w fun e w' => e = .returned (.tuple #[.agg #[.int .u32 0, .int .u32 0, .int .u32 0, .int .u32 0, .int .u32 0, .int .u32 0, .int .u32 0, .int .u32 0], .iface t (.pointer (some p))]) ∧ Below w.heap.size w w' := by
  go_enter Tryd.func65, Tryd.ntmps65
  go_wp2
  refine wp_loop_rounds 6 ?_
  iterate 6 (rw [rounds_succ]; go_wp2)
  go_region
  all_goals go_wp2
  all_goals exact bodyPost_ret (v := .tuple #[.agg #[.int .u32 0, .int .u32 0, .int .u32 0, .int .u32 0, .int .u32 0, .int .u32 0, .int .u32 0, .int .u32 0], .iface t (.pointer (some p))]) (by simp [results, Tryd.results65, go_sem]) rfl ⟨rfl, by first | exact ((((Below.refl _ _).alloc (Nat.le_refl _) _).alloc (by simp) _).alloc (by simp; omega) _).drew | exact ((((Below.refl _ _).alloc (Nat.le_refl _) _).alloc (by simp) _).alloc (by simp; omega) _)⟩
set_option maxRecDepth 100000 in
set_option maxHeartbeats 1000000 in
theorem of_hi5 (s0 s1 s2 s3 s4 s5 s6 s7 : Int) (w : World) (t : TypeId) (p : Addr) (hz : 0 < w.heap.size) (hw : w.cell? ⟨0, 0, none⟩ = some (.iface t (.pointer (some p)))) (h0 : 0 ≤ s0) (g0 : s0 ≤ 4294967295) (h1 : 0 ≤ s1) (g1 : s1 ≤ 4294967295) (h2 : 0 ≤ s2) (g2 : s2 ≤ 4294967295) (h3 : 0 ≤ s3) (g3 : s3 ≤ 4294967295) (h4 : 0 ≤ s4) (g4 : s4 ≤ 4294967295) (b : 4294967295 < s5) :
    Calls Tryd.prog 65 #[.agg #[.int .i64 s0, .int .i64 s1, .int .i64 s2, .int .i64 s3, .int .i64 s4, .int .i64 s5, .int .i64 s6, .int .i64 s7]] w fun e w' => e = .returned (.tuple #[.agg #[.int .u32 0, .int .u32 0, .int .u32 0, .int .u32 0, .int .u32 0, .int .u32 0, .int .u32 0, .int .u32 0], .iface t (.pointer (some p))]) ∧ Below w.heap.size w w' := by
  have p5 : 0 ≤ s5 := by omega
  go_enter Tryd.func65, Tryd.ntmps65
  go_wp2
  refine wp_loop_rounds 6 ?_
  iterate 6 (rw [rounds_succ]; go_wp2)
  go_region
  all_goals go_wp2
  all_goals exact bodyPost_ret (v := .tuple #[.agg #[.int .u32 0, .int .u32 0, .int .u32 0, .int .u32 0, .int .u32 0, .int .u32 0, .int .u32 0, .int .u32 0], .iface t (.pointer (some p))]) (by simp [results, Tryd.results65, go_sem]) rfl ⟨rfl, by first | exact ((((Below.refl _ _).alloc (Nat.le_refl _) _).alloc (by simp) _).alloc (by simp; omega) _).drew | exact ((((Below.refl _ _).alloc (Nat.le_refl _) _).alloc (by simp) _).alloc (by simp; omega) _)⟩
set_option maxRecDepth 100000 in
set_option maxHeartbeats 1000000 in
theorem of_lo6 (s0 s1 s2 s3 s4 s5 s6 s7 : Int) (w : World) (t : TypeId) (p : Addr) (hz : 0 < w.heap.size) (hw : w.cell? ⟨0, 0, none⟩ = some (.iface t (.pointer (some p)))) (h0 : 0 ≤ s0) (g0 : s0 ≤ 4294967295) (h1 : 0 ≤ s1) (g1 : s1 ≤ 4294967295) (h2 : 0 ≤ s2) (g2 : s2 ≤ 4294967295) (h3 : 0 ≤ s3) (g3 : s3 ≤ 4294967295) (h4 : 0 ≤ s4) (g4 : s4 ≤ 4294967295) (h5 : 0 ≤ s5) (g5 : s5 ≤ 4294967295) (b : s6 < 0) :
    Calls Tryd.prog 65 #[.agg #[.int .i64 s0, .int .i64 s1, .int .i64 s2, .int .i64 s3, .int .i64 s4, .int .i64 s5, .int .i64 s6, .int .i64 s7]] w fun e w' => e = .returned (.tuple #[.agg #[.int .u32 0, .int .u32 0, .int .u32 0, .int .u32 0, .int .u32 0, .int .u32 0, .int .u32 0, .int .u32 0], .iface t (.pointer (some p))]) ∧ Below w.heap.size w w' := by
  go_enter Tryd.func65, Tryd.ntmps65
  go_wp2
  refine wp_loop_rounds 7 ?_
  iterate 7 (rw [rounds_succ]; go_wp2)
  go_region
  all_goals go_wp2
  all_goals exact bodyPost_ret (v := .tuple #[.agg #[.int .u32 0, .int .u32 0, .int .u32 0, .int .u32 0, .int .u32 0, .int .u32 0, .int .u32 0, .int .u32 0], .iface t (.pointer (some p))]) (by simp [results, Tryd.results65, go_sem]) rfl ⟨rfl, by first | exact ((((Below.refl _ _).alloc (Nat.le_refl _) _).alloc (by simp) _).alloc (by simp; omega) _).drew | exact ((((Below.refl _ _).alloc (Nat.le_refl _) _).alloc (by simp) _).alloc (by simp; omega) _)⟩
set_option maxRecDepth 100000 in
set_option maxHeartbeats 1000000 in
theorem of_hi6 (s0 s1 s2 s3 s4 s5 s6 s7 : Int) (w : World) (t : TypeId) (p : Addr) (hz : 0 < w.heap.size) (hw : w.cell? ⟨0, 0, none⟩ = some (.iface t (.pointer (some p)))) (h0 : 0 ≤ s0) (g0 : s0 ≤ 4294967295) (h1 : 0 ≤ s1) (g1 : s1 ≤ 4294967295) (h2 : 0 ≤ s2) (g2 : s2 ≤ 4294967295) (h3 : 0 ≤ s3) (g3 : s3 ≤ 4294967295) (h4 : 0 ≤ s4) (g4 : s4 ≤ 4294967295) (h5 : 0 ≤ s5) (g5 : s5 ≤ 4294967295) (b : 4294967295 < s6) :
    Calls Tryd.prog 65 #[.agg #[.int .i64 s0, .int .i64 s1, .int .i64 s2, .int .i64 s3, .int .i64 s4, .int .i64 s5, .int .i64 s6, .int .i64 s7]] w fun e w' => e = .returned (.tuple #[.agg #[.int .u32 0, .int .u32 0, .int .u32 0, .int .u32 0, .int .u32 0, .int .u32 0, .int .u32 0, .int .u32 0], .iface t (.pointer (some p))]) ∧ Below w.heap.size w w' := by
  have p6 : 0 ≤ s6 := by omega
  go_enter Tryd.func65, Tryd.ntmps65
  go_wp2
  refine wp_loop_rounds 7 ?_
  iterate 7 (rw [rounds_succ]; go_wp2)
  go_region
  all_goals go_wp2
  all_goals exact bodyPost_ret (v := .tuple #[.agg #[.int .u32 0, .int .u32 0, .int .u32 0, .int .u32 0, .int .u32 0, .int .u32 0, .int .u32 0, .int .u32 0], .iface t (.pointer (some p))]) (by simp [results, Tryd.results65, go_sem]) rfl ⟨rfl, by first | exact ((((Below.refl _ _).alloc (Nat.le_refl _) _).alloc (by simp) _).alloc (by simp; omega) _).drew | exact ((((Below.refl _ _).alloc (Nat.le_refl _) _).alloc (by simp) _).alloc (by simp; omega) _)⟩
set_option maxRecDepth 100000 in
set_option maxHeartbeats 1000000 in
theorem of_lo7 (s0 s1 s2 s3 s4 s5 s6 s7 : Int) (w : World) (t : TypeId) (p : Addr) (hz : 0 < w.heap.size) (hw : w.cell? ⟨0, 0, none⟩ = some (.iface t (.pointer (some p)))) (h0 : 0 ≤ s0) (g0 : s0 ≤ 4294967295) (h1 : 0 ≤ s1) (g1 : s1 ≤ 4294967295) (h2 : 0 ≤ s2) (g2 : s2 ≤ 4294967295) (h3 : 0 ≤ s3) (g3 : s3 ≤ 4294967295) (h4 : 0 ≤ s4) (g4 : s4 ≤ 4294967295) (h5 : 0 ≤ s5) (g5 : s5 ≤ 4294967295) (h6 : 0 ≤ s6) (g6 : s6 ≤ 4294967295) (b : s7 < 0) :
    Calls Tryd.prog 65 #[.agg #[.int .i64 s0, .int .i64 s1, .int .i64 s2, .int .i64 s3, .int .i64 s4, .int .i64 s5, .int .i64 s6, .int .i64 s7]] w fun e w' => e = .returned (.tuple #[.agg #[.int .u32 0, .int .u32 0, .int .u32 0, .int .u32 0, .int .u32 0, .int .u32 0, .int .u32 0, .int .u32 0], .iface t (.pointer (some p))]) ∧ Below w.heap.size w w' := by
  go_enter Tryd.func65, Tryd.ntmps65
  go_wp2
  refine wp_loop_rounds 8 ?_
  iterate 8 (rw [rounds_succ]; go_wp2)
  go_region
  all_goals go_wp2
  all_goals exact bodyPost_ret (v := .tuple #[.agg #[.int .u32 0, .int .u32 0, .int .u32 0, .int .u32 0, .int .u32 0, .int .u32 0, .int .u32 0, .int .u32 0], .iface t (.pointer (some p))]) (by simp [results, Tryd.results65, go_sem]) rfl ⟨rfl, by first | exact ((((Below.refl _ _).alloc (Nat.le_refl _) _).alloc (by simp) _).alloc (by simp; omega) _).drew | exact ((((Below.refl _ _).alloc (Nat.le_refl _) _).alloc (by simp) _).alloc (by simp; omega) _)⟩
set_option maxRecDepth 100000 in
set_option maxHeartbeats 1000000 in
theorem of_hi7 (s0 s1 s2 s3 s4 s5 s6 s7 : Int) (w : World) (t : TypeId) (p : Addr) (hz : 0 < w.heap.size) (hw : w.cell? ⟨0, 0, none⟩ = some (.iface t (.pointer (some p)))) (h0 : 0 ≤ s0) (g0 : s0 ≤ 4294967295) (h1 : 0 ≤ s1) (g1 : s1 ≤ 4294967295) (h2 : 0 ≤ s2) (g2 : s2 ≤ 4294967295) (h3 : 0 ≤ s3) (g3 : s3 ≤ 4294967295) (h4 : 0 ≤ s4) (g4 : s4 ≤ 4294967295) (h5 : 0 ≤ s5) (g5 : s5 ≤ 4294967295) (h6 : 0 ≤ s6) (g6 : s6 ≤ 4294967295) (b : 4294967295 < s7) :
    Calls Tryd.prog 65 #[.agg #[.int .i64 s0, .int .i64 s1, .int .i64 s2, .int .i64 s3, .int .i64 s4, .int .i64 s5, .int .i64 s6, .int .i64 s7]] w fun e w' => e = .returned (.tuple #[.agg #[.int .u32 0, .int .u32 0, .int .u32 0, .int .u32 0, .int .u32 0, .int .u32 0, .int .u32 0, .int .u32 0], .iface t (.pointer (some p))]) ∧ Below w.heap.size w w' := by
  have p7 : 0 ≤ s7 := by omega
  go_enter Tryd.func65, Tryd.ntmps65
  go_wp2
  refine wp_loop_rounds 8 ?_
  iterate 8 (rw [rounds_succ]; go_wp2)
  go_region
  all_goals go_wp2
  all_goals exact bodyPost_ret (v := .tuple #[.agg #[.int .u32 0, .int .u32 0, .int .u32 0, .int .u32 0, .int .u32 0, .int .u32 0, .int .u32 0, .int .u32 0], .iface t (.pointer (some p))]) (by simp [results, Tryd.results65, go_sem]) rfl ⟨rfl, by first | exact ((((Below.refl _ _).alloc (Nat.le_refl _) _).alloc (by simp) _).alloc (by simp; omega) _).drew | exact ((((Below.refl _ _).alloc (Nat.le_refl _) _).alloc (by simp) _).alloc (by simp; omega) _)⟩
end Go.Proofs.YtfafidholldjlaaDoor
