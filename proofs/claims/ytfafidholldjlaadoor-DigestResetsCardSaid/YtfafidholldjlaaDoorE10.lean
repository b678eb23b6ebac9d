/- Sum of a hasher. -/
import Derived.Test.YtfafidholldjlaaDoorE9
import Derived.Defers
set_option linter.unusedVariables false
set_option linter.unusedSimpArgs false
namespace Go.Proofs.YtfafidholldjlaaDoor
open Go.RowKit
set_option maxRecDepth 100000 in
set_option maxHeartbeats 1000000 in
theorem restore_any (h bx : Nat) (sp : Option Addr) (k cap : Nat) (v2 : Value) (s s2 : Sha.St) (n n2 : Int) (u : FrameMode) (w : World) (hb : w.heap[bx]? = some (.cells #[.pointer (some ⟨h, 0, none⟩)] 46 (0, 0))) (hh : w.heap[h]? = some (.cells (hrow v2 s2 n2) 93 (0, 0))) :
    CallsD Tryd.prog 75 #[.agg (hrow (.slice sp k cap) s n), .pointer (some ⟨bx, 0, none⟩)] u w fun e u' w' => u' = u ∧ (e = .returned (.tuple #[]) ∧ w'.heap[h]? = some (.cells (hrow (.slice sp k cap) s n) 93 (0, 0)) ∧ Far (· = h) w w') := by
  have hh1 : w.heap[h]? = some (.cells #[v2, .int .i64 s2.a, .int .i64 s2.b, .int .i64 s2.c, .int .i64 s2.d, .int .i64 s2.e, .int .i64 s2.f, .int .i64 s2.g, .int .i64 s2.h, .int .i64 n2] 93 (0, 0)) := hh
  have c0 : w.cell? ⟨bx, 0, none⟩ = some (.pointer (some ⟨h, 0, none⟩)) := cell_of hb 0
  have z0 : w.cell? ⟨h, 0, none⟩ = some (v2) := cell_of hh1 0
  have z1 : w.cell? ⟨h, 1, none⟩ = some (.int .i64 s2.a) := cell_of hh1 1
  have z2 : w.cell? ⟨h, 2, none⟩ = some (.int .i64 s2.b) := cell_of hh1 2
  have z3 : w.cell? ⟨h, 3, none⟩ = some (.int .i64 s2.c) := cell_of hh1 3
  have z4 : w.cell? ⟨h, 4, none⟩ = some (.int .i64 s2.d) := cell_of hh1 4
  have z5 : w.cell? ⟨h, 5, none⟩ = some (.int .i64 s2.e) := cell_of hh1 5
  have z6 : w.cell? ⟨h, 6, none⟩ = some (.int .i64 s2.f) := cell_of hh1 6
  have z7 : w.cell? ⟨h, 7, none⟩ = some (.int .i64 s2.g) := cell_of hh1 7
  have z8 : w.cell? ⟨h, 8, none⟩ = some (.int .i64 s2.h) := cell_of hh1 8
  have z9 : w.cell? ⟨h, 9, none⟩ = some (.int .i64 n2) := cell_of hh1 9
  have f0 : w.frozen? ⟨h, 0, none⟩ = false := frozen_of hh1 0
  have f1 : w.frozen? ⟨h, 1, none⟩ = false := frozen_of hh1 1
  have f2 : w.frozen? ⟨h, 2, none⟩ = false := frozen_of hh1 2
  have f3 : w.frozen? ⟨h, 3, none⟩ = false := frozen_of hh1 3
  have f4 : w.frozen? ⟨h, 4, none⟩ = false := frozen_of hh1 4
  have f5 : w.frozen? ⟨h, 5, none⟩ = false := frozen_of hh1 5
  have f6 : w.frozen? ⟨h, 6, none⟩ = false := frozen_of hh1 6
  have f7 : w.frozen? ⟨h, 7, none⟩ = false := frozen_of hh1 7
  have f8 : w.frozen? ⟨h, 8, none⟩ = false := frozen_of hh1 8
  have f9 : w.frozen? ⟨h, 9, none⟩ = false := frozen_of hh1 9
  have HH1 := Lib.hid hh1
  have hlb : bx < w.heap.size := lt_of_heap hb
  have hlh : h < w.heap.size := lt_of_heap hh1
  clear hh hh1 hb
  unfold hrow
  go_enter_d Tryd.func75, Tryd.ntmps75
  go_wp2_with fail
  go_end0
  exact ⟨rfl, alloc_heap_old _ (store10 w h 93 _ _ _ _ _ _ _ _ _ _ (.slice sp k cap) (.int .i64 s.a) (.int .i64 s.b) (.int .i64 s.c) (.int .i64 s.d) (.int .i64 s.e) (.int .i64 s.f) (.int .i64 s.g) (.int .i64 s.h) (.int .i64 n) HH1.out), (far10 (· = h) w w h (.slice sp k cap) (.int .i64 s.a) (.int .i64 s.b) (.int .i64 s.c) (.int .i64 s.d) (.int .i64 s.e) (.int .i64 s.f) (.int .i64 s.g) (.int .i64 s.h) (.int .i64 n) (Far.refl _ _) (fun _ => rfl)).alloc _⟩
end Go.Proofs.YtfafidholldjlaaDoor
