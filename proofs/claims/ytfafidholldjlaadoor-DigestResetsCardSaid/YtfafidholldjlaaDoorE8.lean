/- Reset of package digest. -/
import Derived.Test.YtfafidholldjlaaDoorE7
set_option linter.unusedVariables false
set_option linter.unusedSimpArgs false
namespace Go.Proofs.YtfafidholldjlaaDoor
open Go.RowKit
theorem store10 (W : World) (h : Nat) (T : TypeId) (a0 a1 a2 a3 a4 a5 a6 a7 a8 a9 v0 v1 v2 v3 v4 v5 v6 v7 v8 v9 : Value) (hh : W.heap[h]? = some (.cells #[a0, a1, a2, a3, a4, a5, a6, a7, a8, a9] T (0, 0))) :
    ((((((((((W.setCell ⟨h, 0, none⟩ v0).setCell ⟨h, 1, none⟩ v1).setCell ⟨h, 2, none⟩ v2).setCell ⟨h, 3, none⟩ v3).setCell ⟨h, 4, none⟩ v4).setCell ⟨h, 5, none⟩ v5).setCell ⟨h, 6, none⟩ v6).setCell ⟨h, 7, none⟩ v7).setCell ⟨h, 8, none⟩ v8).setCell ⟨h, 9, none⟩ v9).heap[h]? = some (.cells #[v0, v1, v2, v3, v4, v5, v6, v7, v8, v9] T (0, 0)) := by
  have g0 : (W.setCell ⟨h, 0, none⟩ v0).heap[h]? = some (.cells #[v0, a1, a2, a3, a4, a5, a6, a7, a8, a9] T (0, 0)) := setCell_heap hh 0 v0
  have g1 : ((W.setCell ⟨h, 0, none⟩ v0).setCell ⟨h, 1, none⟩ v1).heap[h]? = some (.cells #[v0, v1, a2, a3, a4, a5, a6, a7, a8, a9] T (0, 0)) := setCell_heap g0 1 v1
  have g2 : (((W.setCell ⟨h, 0, none⟩ v0).setCell ⟨h, 1, none⟩ v1).setCell ⟨h, 2, none⟩ v2).heap[h]? = some (.cells #[v0, v1, v2, a3, a4, a5, a6, a7, a8, a9] T (0, 0)) := setCell_heap g1 2 v2
  have g3 : ((((W.setCell ⟨h, 0, none⟩ v0).setCell ⟨h, 1, none⟩ v1).setCell ⟨h, 2, none⟩ v2).setCell ⟨h, 3, none⟩ v3).heap[h]? = some (.cells #[v0, v1, v2, v3, a4, a5, a6, a7, a8, a9] T (0, 0)) := setCell_heap g2 3 v3
  have g4 : (((((W.setCell ⟨h, 0, none⟩ v0).setCell ⟨h, 1, none⟩ v1).setCell ⟨h, 2, none⟩ v2).setCell ⟨h, 3, none⟩ v3).setCell ⟨h, 4, none⟩ v4).heap[h]? = some (.cells #[v0, v1, v2, v3, v4, a5, a6, a7, a8, a9] T (0, 0)) := setCell_heap g3 4 v4
  have g5 : ((((((W.setCell ⟨h, 0, none⟩ v0).setCell ⟨h, 1, none⟩ v1).setCell ⟨h, 2, none⟩ v2).setCell ⟨h, 3, none⟩ v3).setCell ⟨h, 4, none⟩ v4).setCell ⟨h, 5, none⟩ v5).heap[h]? = some (.cells #[v0, v1, v2, v3, v4, v5, a6, a7, a8, a9] T (0, 0)) := setCell_heap g4 5 v5
  have g6 : (((((((W.setCell ⟨h, 0, none⟩ v0).setCell ⟨h, 1, none⟩ v1).setCell ⟨h, 2, none⟩ v2).setCell ⟨h, 3, none⟩ v3).setCell ⟨h, 4, none⟩ v4).setCell ⟨h, 5, none⟩ v5).setCell ⟨h, 6, none⟩ v6).heap[h]? = some (.cells #[v0, v1, v2, v3, v4, v5, v6, a7, a8, a9] T (0, 0)) := setCell_heap g5 6 v6
  have g7 : ((((((((W.setCell ⟨h, 0, none⟩ v0).setCell ⟨h, 1, none⟩ v1).setCell ⟨h, 2, none⟩ v2).setCell ⟨h, 3, none⟩ v3).setCell ⟨h, 4, none⟩ v4).setCell ⟨h, 5, none⟩ v5).setCell ⟨h, 6, none⟩ v6).setCell ⟨h, 7, none⟩ v7).heap[h]? = some (.cells #[v0, v1, v2, v3, v4, v5, v6, v7, a8, a9] T (0, 0)) := setCell_heap g6 7 v7
  have g8 : (((((((((W.setCell ⟨h, 0, none⟩ v0).setCell ⟨h, 1, none⟩ v1).setCell ⟨h, 2, none⟩ v2).setCell ⟨h, 3, none⟩ v3).setCell ⟨h, 4, none⟩ v4).setCell ⟨h, 5, none⟩ v5).setCell ⟨h, 6, none⟩ v6).setCell ⟨h, 7, none⟩ v7).setCell ⟨h, 8, none⟩ v8).heap[h]? = some (.cells #[v0, v1, v2, v3, v4, v5, v6, v7, v8, a9] T (0, 0)) := setCell_heap g7 8 v8
  have g9 : ((((((((((W.setCell ⟨h, 0, none⟩ v0).setCell ⟨h, 1, none⟩ v1).setCell ⟨h, 2, none⟩ v2).setCell ⟨h, 3, none⟩ v3).setCell ⟨h, 4, none⟩ v4).setCell ⟨h, 5, none⟩ v5).setCell ⟨h, 6, none⟩ v6).setCell ⟨h, 7, none⟩ v7).setCell ⟨h, 8, none⟩ v8).setCell ⟨h, 9, none⟩ v9).heap[h]? = some (.cells #[v0, v1, v2, v3, v4, v5, v6, v7, v8, v9] T (0, 0)) := setCell_heap g8 9 v9
  exact g9
theorem far10 (D : Nat → Prop) (W0 W : World) (h : Nat) (v0 v1 v2 v3 v4 v5 v6 v7 v8 v9 : Value) (hf : Far D W0 W) (hD : h < W0.heap.size → D h) : Far D W0 ((((((((((W.setCell ⟨h, 0, none⟩ v0).setCell ⟨h, 1, none⟩ v1).setCell ⟨h, 2, none⟩ v2).setCell ⟨h, 3, none⟩ v3).setCell ⟨h, 4, none⟩ v4).setCell ⟨h, 5, none⟩ v5).setCell ⟨h, 6, none⟩ v6).setCell ⟨h, 7, none⟩ v7).setCell ⟨h, 8, none⟩ v8).setCell ⟨h, 9, none⟩ v9) :=
  Far.setCell (p := ⟨h, 9, none⟩) (Far.setCell (p := ⟨h, 8, none⟩) (Far.setCell (p := ⟨h, 7, none⟩) (Far.setCell (p := ⟨h, 6, none⟩) (Far.setCell (p := ⟨h, 5, none⟩) (Far.setCell (p := ⟨h, 4, none⟩) (Far.setCell (p := ⟨h, 3, none⟩) (Far.setCell (p := ⟨h, 2, none⟩) (Far.setCell (p := ⟨h, 1, none⟩) (Far.setCell (p := ⟨h, 0, none⟩) (hf) hD _) hD _) hD _) hD _) hD _) hD _) hD _) hD _) hD _) hD _
set_option maxRecDepth 100000 in
set_option maxHeartbeats 1000000 in
theorem reset_any (h : Nat) (v : Value) (s : Sha.St) (n : Int) (w : World) (hh : w.heap[h]? = some (.cells (hrow v s n) 93 (0, 0))) : Calls Tryd.prog 49 #[.pointer (some ⟨h, 0, none⟩)] w fun e w' => e = .returned (.tuple #[]) ∧ w'.heap[h]? = some (.cells (hrow (.slice none 0 0) Sha.St.first 0) 93 (0, 0)) ∧ Far (· = h) w w' := by
  have HH := Lib.hid hh
  have hl := lt_of_heap hh
  clear hh
  go_enter Tryd.func49, Tryd.ntmps49
  go_wp2_with fail
  refine (new_any _).mono ?_
  rintro e w1 ⟨g, rfl, hg, hrow1, hb1⟩
  have hrow1' : w1.heap[g]? = some (.cells #[.slice none 0 0, .int .i64 1779033703, .int .i64 3144134277, .int .i64 1013904242, .int .i64 2773480762, .int .i64 1359893119, .int .i64 2600822924, .int .i64 528734635, .int .i64 1541459225, .int .i64 0] 93 (0, 0)) := hrow1
  have hh1 : w1.heap[h]? = some (.cells #[v, .int .i64 s.a, .int .i64 s.b, .int .i64 s.c, .int .i64 s.d, .int .i64 s.e, .int .i64 s.f, .int .i64 s.g, .int .i64 s.h, .int .i64 n] 93 (0, 0)) := (hb1.block h hl).trans HH.out
  have hf1 := Far.of_below hb1 (· = h)
  have y0 : w1.cell? ⟨g, 0, none⟩ = some (.slice none 0 0) := cell_of hrow1' 0
  have y1 : w1.cell? ⟨g, 1, none⟩ = some (.int .i64 1779033703) := cell_of hrow1' 1
  have y2 : w1.cell? ⟨g, 2, none⟩ = some (.int .i64 3144134277) := cell_of hrow1' 2
  have y3 : w1.cell? ⟨g, 3, none⟩ = some (.int .i64 1013904242) := cell_of hrow1' 3
  have y4 : w1.cell? ⟨g, 4, none⟩ = some (.int .i64 2773480762) := cell_of hrow1' 4
  have y5 : w1.cell? ⟨g, 5, none⟩ = some (.int .i64 1359893119) := cell_of hrow1' 5
  have y6 : w1.cell? ⟨g, 6, none⟩ = some (.int .i64 2600822924) := cell_of hrow1' 6
  have y7 : w1.cell? ⟨g, 7, none⟩ = some (.int .i64 528734635) := cell_of hrow1' 7
  have y8 : w1.cell? ⟨g, 8, none⟩ = some (.int .i64 1541459225) := cell_of hrow1' 8
  have y9 : w1.cell? ⟨g, 9, none⟩ = some (.int .i64 0) := cell_of hrow1' 9
  have z0 : w1.cell? ⟨h, 0, none⟩ = some (v) := cell_of hh1 0
  have z1 : w1.cell? ⟨h, 1, none⟩ = some (.int .i64 s.a) := cell_of hh1 1
  have z2 : w1.cell? ⟨h, 2, none⟩ = some (.int .i64 s.b) := cell_of hh1 2
  have z3 : w1.cell? ⟨h, 3, none⟩ = some (.int .i64 s.c) := cell_of hh1 3
  have z4 : w1.cell? ⟨h, 4, none⟩ = some (.int .i64 s.d) := cell_of hh1 4
  have z5 : w1.cell? ⟨h, 5, none⟩ = some (.int .i64 s.e) := cell_of hh1 5
  have z6 : w1.cell? ⟨h, 6, none⟩ = some (.int .i64 s.f) := cell_of hh1 6
  have z7 : w1.cell? ⟨h, 7, none⟩ = some (.int .i64 s.g) := cell_of hh1 7
  have z8 : w1.cell? ⟨h, 8, none⟩ = some (.int .i64 s.h) := cell_of hh1 8
  have z9 : w1.cell? ⟨h, 9, none⟩ = some (.int .i64 n) := cell_of hh1 9
  have f0 : w1.frozen? ⟨h, 0, none⟩ = false := frozen_of hh1 0
  have f1 : w1.frozen? ⟨h, 1, none⟩ = false := frozen_of hh1 1
  have f2 : w1.frozen? ⟨h, 2, none⟩ = false := frozen_of hh1 2
  have f3 : w1.frozen? ⟨h, 3, none⟩ = false := frozen_of hh1 3
  have f4 : w1.frozen? ⟨h, 4, none⟩ = false := frozen_of hh1 4
  have f5 : w1.frozen? ⟨h, 5, none⟩ = false := frozen_of hh1 5
  have f6 : w1.frozen? ⟨h, 6, none⟩ = false := frozen_of hh1 6
  have f7 : w1.frozen? ⟨h, 7, none⟩ = false := frozen_of hh1 7
  have f8 : w1.frozen? ⟨h, 8, none⟩ = false := frozen_of hh1 8
  have f9 : w1.frozen? ⟨h, 9, none⟩ = false := frozen_of hh1 9
  have HH1 := Lib.hid hh1
  have HF1 := Lib.hid hf1
  clear hh1 hf1 hb1 hrow1 hrow1'
  go_wp2_with fail
  go_end0
  exact ⟨rfl, store10 w1 h 93 _ _ _ _ _ _ _ _ _ _ (.slice none 0 0) (.int .i64 1779033703) (.int .i64 3144134277) (.int .i64 1013904242) (.int .i64 2773480762) (.int .i64 1359893119) (.int .i64 2600822924) (.int .i64 528734635) (.int .i64 1541459225) (.int .i64 0) HH1.out, far10 (· = h) w w1 h (.slice none 0 0) (.int .i64 1779033703) (.int .i64 3144134277) (.int .i64 1013904242) (.int .i64 2773480762) (.int .i64 1359893119) (.int .i64 2600822924) (.int .i64 528734635) (.int .i64 1541459225) (.int .i64 0) HF1.out (fun _ => rfl)⟩
end Go.Proofs.YtfafidholldjlaaDoor
