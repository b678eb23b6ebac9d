/- The head of each law. -/
import Derived.Test.YtfafidholldjlaaDoorZB
import Derived.Laws.MakeOwn
import Derived.Deep.CutRange
set_option linter.unusedVariables false
set_option linter.unusedSimpArgs false
namespace Go.Proofs.YtfafidholldjlaaDoor
open Go.RowKit
def firstObj : Obj := .cells #[.int .i64 1779033703, .int .i64 3144134277, .int .i64 1013904242, .int .i64 2773480762, .int .i64 1359893119, .int .i64 2600822924, .int .i64 528734635, .int .i64 1541459225] 23
theorem first_new (w : World) : Calls Tryd.prog 33 #[] w fun e w' => e = .returned (.agg (row64 Sha.St.first)) ∧ w' = w.alloc firstObj := by
  go_enter Tryd.func33, Tryd.ntmps33
  go_wp2
  exact bodyPost_ret (v := .agg (row64 Sha.St.first)) (by simp [results, Tryd.results33, go_sem]; rfl) rfl ⟨rfl, rfl⟩
def z59 : Obj := .cells (madeCells #[.int .u8 0] 59) 5
def s59 : List UInt8 := List.replicate 59 0
theorem make59 (W : World) : (Instr.makeSlice 40 (.int .i64 59) (.int .i64 59)).run Tryd.prog W = .ok (.slice (some ⟨W.heap.size, 0, none⟩) 59 59) (W.alloc z59) := by
  obtain ⟨i0, hi, hz0, hz1, hz2⟩ := info_parts info5
  have h := run_makeSlice (P := Tryd.prog) (w := W) 40 5 i0 (.int .u8 0) Tryd.underlying40 hi hz0 .i64 .i64 59 59 (by decide) (by decide) (by rw [hz1]; decide) (by rw [hz2]; decide) (by decide)
  rw [hz1] at h
  exact h
theorem conv59 (W : World) (g : Nat) (h : W.heap[g]? = some z59) : (convert 40 9 (.slice (some ⟨g, 0, none⟩) 59 59)).run Tryd.prog W = .ok (.string ⟨s59.toArray⟩) W := by
  have hl : s59.length = 59 := by simp [s59]
  have hr := run_convert_bytes_back (P := Tryd.prog) W 40 9 5 ⟨g, 0, none⟩ 59 s59 Tryd.underlying40 Tryd.underlying5 Tryd.underlying9 (fun j hj => by
    rw [Addr.add_lit, Nat.zero_add, cell_of h j]
    have hj' : j < 59 := by rw [← hl]; exact hj
    have e : s59[j]'hj = 0 := List.getElem_replicate _
    rw [e]
    simp [madeCells, hj', Nat.mod_one])
  rw [hl] at hr
  exact hr
def blk64 : ByteArray := { data := #[97, 98, 99, 128] } ++ { data := s59.toArray } ++ { data := #[24] }
theorem blk64_list : blk64.data.toList.map UInt8.toNat = Sha.abc := by kernel_rfl
theorem blk64_size : blk64.size = 64 := by kernel_rfl
theorem blk64_byte : byteAt blk64 = Sha.ab := by
  funext i
  unfold byteAt Sha.ab
  rw [← blk64_list, List.getD_eq_getElem?_getD, List.getD_eq_getElem?_getD, List.getElem?_map]
  cases blk64.data.toList[i]? <;> rfl
def shownSt : Sha.St := ⟨3128432319, 2399260650, 1094795486, 1571693091, 2953011619, 2518121116, 3021012833, 4060091821⟩
theorem shownSt_ok : shownSt.ok := by unfold shownSt Sha.St.ok; decide
theorem first_ok : Sha.St.first.ok := by unfold Sha.St.first Sha.St.ok; decide
theorem zero_ok : Sha.St.zero.ok := by unfold Sha.St.zero Sha.St.ok; decide
theorem shown_compress {B : Nat} {aw ab : Addr} {W : World} (h : Glob B aw ab W) : Calls Tryd.prog 29 #[.agg (row64 Sha.St.first), .string ({ data := #[97, 98, 99, 128] } ++ { data := s59.toArray } ++ { data := #[24] })] W fun e w' => e = .returned (.tuple #[.agg #[.int .i64 3128432319, .int .i64 2399260650, .int .i64 1094795486, .int .i64 1571693091, .int .i64 2953011619, .int .i64 2518121116, .int .i64 3021012833, .int .i64 4060091821], .int .i64 0]) ∧ Below W.heap.size W w' := by
  have hc := compress_ok h Sha.St.first first_ok blk64 blk64_size
  rw [blk64_byte, Sha.shown] at hc
  exact hc
theorem shown_bytes {B : Nat} {aw ab : Addr} {W : World} (h : Glob B aw ab W) : Calls Tryd.prog 31 #[.agg #[.int .i64 3128432319, .int .i64 2399260650, .int .i64 1094795486, .int .i64 1571693091, .int .i64 2953011619, .int .i64 2518121116, .int .i64 3021012833, .int .i64 4060091821]] W fun e w' => e = .returned (.tuple #[.string ⟨(stBytes shownSt).toArray⟩, .int .i64 0]) ∧ Below W.heap.size W w' := bytes_ok shownSt shownSt_ok h
theorem shown_schedule {B : Nat} {aw ab : Addr} {W : World} (h : Glob B aw ab W) : Calls Tryd.prog 25 #[.string { data := #[97, 98, 99] }] W fun e w' => e = .returned (.tuple #[.slice none 0 0, .int .i64 10]) ∧ W = w' := schedule_bad h _ (by decide)
theorem shown_round {B : Nat} {aw ab : Addr} {W : World} (h : Glob B aw ab W) : Calls Tryd.prog 27 #[.agg #[.int .i64 0, .int .i64 0, .int .i64 0, .int .i64 0, .int .i64 0, .int .i64 0, .int .i64 0, .int .i64 0], .int .i64 64, .int .i64 0] W fun e w' => e = .returned (.tuple #[.agg #[.int .i64 0, .int .i64 0, .int .i64 0, .int .i64 0, .int .i64 0, .int .i64 0, .int .i64 0, .int .i64 0], .int .i64 11]) ∧ Below W.heap.size W w' := round_num Sha.St.zero zero_ok 64 0 (by decide) h
theorem shown_at {B : Nat} {aw ab : Addr} {w : World} (h : Glob B aw ab w) (W : World) (hW : Below w.heap.size w W) : Calls Tryd.prog 29 #[.agg (row64 Sha.St.first), .string ({ data := #[97, 98, 99, 128] } ++ { data := s59.toArray } ++ { data := #[24] })] W fun e w' => e = .returned (.tuple #[.agg #[.int .i64 3128432319, .int .i64 2399260650, .int .i64 1094795486, .int .i64 1571693091, .int .i64 2953011619, .int .i64 2518121116, .int .i64 3021012833, .int .i64 4060091821], .int .i64 0]) ∧ Below w.heap.size w w' ∧ Below W.heap.size W w' :=
  (shown_compress (h.below (hW.mono h.size))).mono fun _ _ ⟨he, hb⟩ => ⟨he, hW.trans (hb.mono hW.size), hb⟩
theorem below_up {B : Nat} {w W : World} (hB : B ≤ w.heap.size) (h : Below w.heap.size w W) : Below B w W := h.mono hB
theorem old8 {W W1 : World} (hb : Below W.heap.size W W1) (n : Nat) (h : W.heap[n]? = some (.cells #[.int .i64 0, .int .i64 0, .int .i64 0, .int .i64 0, .int .i64 0, .int .i64 0, .int .i64 0, .int .i64 0] 23 (0, 0))) :
    W1.cell? ⟨n, 0, none⟩ = some (.int .i64 0) ∧ W1.cell? ⟨n, 1, none⟩ = some (.int .i64 0) ∧ W1.cell? ⟨n, 2, none⟩ = some (.int .i64 0) ∧ W1.cell? ⟨n, 3, none⟩ = some (.int .i64 0) ∧ W1.cell? ⟨n, 4, none⟩ = some (.int .i64 0) ∧ W1.cell? ⟨n, 5, none⟩ = some (.int .i64 0) ∧ W1.cell? ⟨n, 6, none⟩ = some (.int .i64 0) ∧ W1.cell? ⟨n, 7, none⟩ = some (.int .i64 0) ∧ W1.frozen? ⟨n, 0, none⟩ = false ∧ W1.frozen? ⟨n, 1, none⟩ = false ∧ W1.frozen? ⟨n, 2, none⟩ = false ∧ W1.frozen? ⟨n, 3, none⟩ = false ∧ W1.frozen? ⟨n, 4, none⟩ = false ∧ W1.frozen? ⟨n, 5, none⟩ = false ∧ W1.frozen? ⟨n, 6, none⟩ = false ∧ W1.frozen? ⟨n, 7, none⟩ = false ∧ W1.heap[n]? = some (.cells #[.int .i64 0, .int .i64 0, .int .i64 0, .int .i64 0, .int .i64 0, .int .i64 0, .int .i64 0, .int .i64 0] 23 (0, 0)) := by
  have hrc := (hb.block n (lt_of_heap h)).trans h
  exact ⟨cell_of hrc 0, cell_of hrc 1, cell_of hrc 2, cell_of hrc 3, cell_of hrc 4, cell_of hrc 5, cell_of hrc 6, cell_of hrc 7, frozen_of hrc 0, frozen_of hrc 1, frozen_of hrc 2, frozen_of hrc 3, frozen_of hrc 4, frozen_of hrc 5, frozen_of hrc 6, frozen_of hrc 7, hrc⟩
set_option maxRecDepth 100000 in
set_option maxHeartbeats 8000000 in
theorem shown_any {B : Nat} {aw ab : Addr} {w : World} (h : Glob B aw ab w) : Calls Tryd.prog 23 #[] w fun e w' => e = .returned (.bool true) ∧ Below w.heap.size w w' := by
  have H := Lib.hid h
  clear h
  have hmk := make59
  have hc0 : (convert 40 9 (.slice (some ⟨w.heap.size, 0, none⟩) 59 59)).run Tryd.prog (w.alloc (z59)).drew = .ok (.string ⟨s59.toArray⟩) (w.alloc (z59)).drew := conv59 _ _ (alloc_heap_at _ _ _ (by simp))
  have hc1 : (convert 40 9 (.slice (some ⟨w.heap.size + 1, 0, none⟩) 59 59)).run Tryd.prog ((w.alloc (firstObj)).alloc (z59)).drew = .ok (.string ⟨s59.toArray⟩) ((w.alloc (firstObj)).alloc (z59)).drew := conv59 _ _ (alloc_heap_at _ _ _ (by simp))
  have hc2 : (convert 40 9 (.slice (some ⟨w.heap.size + 1, 0, none⟩) 59 59)).run Tryd.prog ((w.alloc (Obj.cells #[.int .i64 0, .int .i64 0, .int .i64 0, .int .i64 0, .int .i64 0, .int .i64 0, .int .i64 0, .int .i64 0] 23)).alloc (z59)).drew = .ok (.string ⟨s59.toArray⟩) ((w.alloc (Obj.cells #[.int .i64 0, .int .i64 0, .int .i64 0, .int .i64 0, .int .i64 0, .int .i64 0, .int .i64 0, .int .i64 0] 23)).alloc (z59)).drew := conv59 _ _ (alloc_heap_at _ _ _ (by simp))
  have hc3 : (convert 40 9 (.slice (some ⟨w.heap.size, 0, none⟩) 59 59)).run Tryd.prog ((w.alloc (z59)).alloc (firstObj)).drew = .ok (.string ⟨s59.toArray⟩) ((w.alloc (z59)).alloc (firstObj)).drew := conv59 _ _ (alloc_heap_old _ (alloc_heap_at _ _ _ (by simp)))
  have hc4 : (convert 40 9 (.slice (some ⟨w.heap.size, 0, none⟩) 59 59)).run Tryd.prog ((w.alloc (z59)).alloc (Obj.cells #[.int .i64 0, .int .i64 0, .int .i64 0, .int .i64 0, .int .i64 0, .int .i64 0, .int .i64 0, .int .i64 0] 23)).drew = .ok (.string ⟨s59.toArray⟩) ((w.alloc (z59)).alloc (Obj.cells #[.int .i64 0, .int .i64 0, .int .i64 0, .int .i64 0, .int .i64 0, .int .i64 0, .int .i64 0, .int .i64 0] 23)).drew := conv59 _ _ (alloc_heap_old _ (alloc_heap_at _ _ _ (by simp)))
  have hc5 : (convert 40 9 (.slice (some ⟨w.heap.size + 1 + 1, 0, none⟩) 59 59)).run Tryd.prog (((w.alloc (firstObj)).alloc (Obj.cells #[.int .i64 0, .int .i64 0, .int .i64 0, .int .i64 0, .int .i64 0, .int .i64 0, .int .i64 0, .int .i64 0] 23)).alloc (z59)).drew = .ok (.string ⟨s59.toArray⟩) (((w.alloc (firstObj)).alloc (Obj.cells #[.int .i64 0, .int .i64 0, .int .i64 0, .int .i64 0, .int .i64 0, .int .i64 0, .int .i64 0, .int .i64 0] 23)).alloc (z59)).drew := conv59 _ _ (alloc_heap_at _ _ _ (by simp))
  have hc6 : (convert 40 9 (.slice (some ⟨w.heap.size + 1 + 1, 0, none⟩) 59 59)).run Tryd.prog (((w.alloc (Obj.cells #[.int .i64 0, .int .i64 0, .int .i64 0, .int .i64 0, .int .i64 0, .int .i64 0, .int .i64 0, .int .i64 0] 23)).alloc (firstObj)).alloc (z59)).drew = .ok (.string ⟨s59.toArray⟩) (((w.alloc (Obj.cells #[.int .i64 0, .int .i64 0, .int .i64 0, .int .i64 0, .int .i64 0, .int .i64 0, .int .i64 0, .int .i64 0] 23)).alloc (firstObj)).alloc (z59)).drew := conv59 _ _ (alloc_heap_at _ _ _ (by simp))
  have hc7 : (convert 40 9 (.slice (some ⟨w.heap.size + 1, 0, none⟩) 59 59)).run Tryd.prog (((w.alloc (firstObj)).alloc (z59)).alloc (Obj.cells #[.int .i64 0, .int .i64 0, .int .i64 0, .int .i64 0, .int .i64 0, .int .i64 0, .int .i64 0, .int .i64 0] 23)).drew = .ok (.string ⟨s59.toArray⟩) (((w.alloc (firstObj)).alloc (z59)).alloc (Obj.cells #[.int .i64 0, .int .i64 0, .int .i64 0, .int .i64 0, .int .i64 0, .int .i64 0, .int .i64 0, .int .i64 0] 23)).drew := conv59 _ _ (alloc_heap_old _ (alloc_heap_at _ _ _ (by simp)))
  have hc8 : (convert 40 9 (.slice (some ⟨w.heap.size, 0, none⟩) 59 59)).run Tryd.prog (((w.alloc (z59)).alloc (firstObj)).alloc (Obj.cells #[.int .i64 0, .int .i64 0, .int .i64 0, .int .i64 0, .int .i64 0, .int .i64 0, .int .i64 0, .int .i64 0] 23)).drew = .ok (.string ⟨s59.toArray⟩) (((w.alloc (z59)).alloc (firstObj)).alloc (Obj.cells #[.int .i64 0, .int .i64 0, .int .i64 0, .int .i64 0, .int .i64 0, .int .i64 0, .int .i64 0, .int .i64 0] 23)).drew := conv59 _ _ (alloc_heap_old _ (alloc_heap_old _ (alloc_heap_at _ _ _ (by simp))))
  have hc9 : (convert 40 9 (.slice (some ⟨w.heap.size + 1, 0, none⟩) 59 59)).run Tryd.prog (((w.alloc (Obj.cells #[.int .i64 0, .int .i64 0, .int .i64 0, .int .i64 0, .int .i64 0, .int .i64 0, .int .i64 0, .int .i64 0] 23)).alloc (z59)).alloc (firstObj)).drew = .ok (.string ⟨s59.toArray⟩) (((w.alloc (Obj.cells #[.int .i64 0, .int .i64 0, .int .i64 0, .int .i64 0, .int .i64 0, .int .i64 0, .int .i64 0, .int .i64 0] 23)).alloc (z59)).alloc (firstObj)).drew := conv59 _ _ (alloc_heap_old _ (alloc_heap_at _ _ _ (by simp)))
  have hc10 : (convert 40 9 (.slice (some ⟨w.heap.size, 0, none⟩) 59 59)).run Tryd.prog (((w.alloc (z59)).alloc (Obj.cells #[.int .i64 0, .int .i64 0, .int .i64 0, .int .i64 0, .int .i64 0, .int .i64 0, .int .i64 0, .int .i64 0] 23)).alloc (firstObj)).drew = .ok (.string ⟨s59.toArray⟩) (((w.alloc (z59)).alloc (Obj.cells #[.int .i64 0, .int .i64 0, .int .i64 0, .int .i64 0, .int .i64 0, .int .i64 0, .int .i64 0, .int .i64 0] 23)).alloc (firstObj)).drew := conv59 _ _ (alloc_heap_old _ (alloc_heap_old _ (alloc_heap_at _ _ _ (by simp))))
  go_enter Tryd.func23, Tryd.ntmps23
  go_upto_region 1 with fail
  go_cut [1, 2] from 9 to 17 (fun s1 s2 wx => ∃ b, s1 = .pointer (some ⟨b, 0, none⟩) ∧ s2 = .int .i64 0 ∧ w.heap.size ≤ b ∧ wx.heap[b]? = some (.cells #[.int .i64 3128432319, .int .i64 2399260650, .int .i64 1094795486, .int .i64 1571693091, .int .i64 2953011619, .int .i64 2518121116, .int .i64 3021012833, .int .i64 4060091821] 23 (0, 0)) ∧ Below w.heap.size w wx)
  case first =>
    go_region_with (first | (go_at_call 33; refine (first_new _).mono ?_; rintro e w1 ⟨rfl, rfl⟩) | (go_at_call 29; refine (shown_at H.out _ (Below.drew ?_)).mono ?_; (repeat (first | exact Below.refl _ _ | refine Below.alloc ?_ (by (simp <;> omega)) _)); rintro e W1 ⟨rfl, hwb, hw1⟩; have HWB := Lib.hid hwb; clear hwb; (first | (obtain ⟨y0, y1, y2, y3, y4, y5, y6, y7, f0, f1, f2, f3, f4, f5, f6, f7, hrc⟩ := old8 hw1 w.heap.size (alloc_heap_old _ (alloc_heap_old _ (alloc_heap_at _ _ _ rfl))); have HRC := Lib.hid hrc; clear hrc) | (obtain ⟨y0, y1, y2, y3, y4, y5, y6, y7, f0, f1, f2, f3, f4, f5, f6, f7, hrc⟩ := old8 hw1 (w.heap.size + 1) (alloc_heap_old _ (alloc_heap_at _ _ _ (by simp))); have HRC := Lib.hid hrc; clear hrc) | (obtain ⟨y0, y1, y2, y3, y4, y5, y6, y7, f0, f1, f2, f3, f4, f5, f6, f7, hrc⟩ := old8 hw1 (w.heap.size + 1 + 1) (alloc_heap_at _ _ _ (by simp)); have HRC := Lib.hid hrc; clear hrc) | skip)))
    all_goals (go_wp2_with fail; go_meet; first | exact ⟨_, rfl, rfl, HWB.out.size, alloc_heap_at _ _ _ rfl, HWB.out.alloc HWB.out.size _⟩ | exact ⟨_, rfl, rfl, (by omega), store8 W1 _ 23 _ _ _ _ _ _ _ _ _ _ _ _ _ _ _ _ HRC.out, below8 W1 _ _ _ _ _ _ _ _ _ HWB.out (by omega)⟩)
  case rest =>
  obtain ⟨b, rfl, rfl, hlb, hc, hw⟩ := hcut
  clear hmk hc0 hc1 hc2 hc3 hc4 hc5 hc6 hc7 hc8 hc9 hc10
  have y0 : wc.cell? ⟨b, 0, none⟩ = some (.int .i64 3128432319) := cell_of hc 0
  have y1 : wc.cell? ⟨b, 1, none⟩ = some (.int .i64 2399260650) := cell_of hc 1
  have y2 : wc.cell? ⟨b, 2, none⟩ = some (.int .i64 1094795486) := cell_of hc 2
  have y3 : wc.cell? ⟨b, 3, none⟩ = some (.int .i64 1571693091) := cell_of hc 3
  have y4 : wc.cell? ⟨b, 4, none⟩ = some (.int .i64 2953011619) := cell_of hc 4
  have y5 : wc.cell? ⟨b, 5, none⟩ = some (.int .i64 2518121116) := cell_of hc 5
  have y6 : wc.cell? ⟨b, 6, none⟩ = some (.int .i64 3021012833) := cell_of hc 6
  have y7 : wc.cell? ⟨b, 7, none⟩ = some (.int .i64 4060091821) := cell_of hc 7
  have HC := Lib.hid hc
  have HW := Lib.hid hw
  clear hc hw
  go_wp2_with fail
  refine (shown_bytes (H.out.below (HW.out.mono H.out.size))).mono ?_
  rintro e w2 ⟨rfl, hb2⟩
  have hw2 : Below w.heap.size w w2 := HW.out.trans (hb2.mono HW.out.size)
  have hc2 := (hb2.block b (lt_of_heap HC.out)).trans HC.out
  have HC2 := Lib.hid hc2
  have HW2 := Lib.hid hw2
  clear hb2 hw2 hc2 y0 y1 y2 y3 y4 y5 y6 y7
  go_wp2_with fail
  refine (shown_schedule (H.out.below (HW2.out.mono H.out.size))).mono ?_
  rintro e w3 ⟨rfl, rfl⟩
  go_wp2_with fail
  refine (shown_round (H.out.below (HW2.out.mono H.out.size))).mono ?_
  rintro e w4 ⟨rfl, hb4⟩
  have hw4 : Below w.heap.size w w4 := HW2.out.trans (hb4.mono HW2.out.size)
  have hc4 := (hb4.block b (lt_of_heap HC2.out)).trans HC2.out
  have y0 : (w4.alloc (.cells #[.int .i64 0, .int .i64 0, .int .i64 0, .int .i64 0, .int .i64 0, .int .i64 0, .int .i64 0, .int .i64 0] 23)).cell? ⟨b, 0, none⟩ = some (.int .i64 3128432319) := cell_of (alloc_heap_old _ hc4) 0
  have y7 : (w4.alloc (.cells #[.int .i64 0, .int .i64 0, .int .i64 0, .int .i64 0, .int .i64 0, .int .i64 0, .int .i64 0, .int .i64 0] 23)).cell? ⟨b, 7, none⟩ = some (.int .i64 4060091821) := cell_of (alloc_heap_old _ hc4) 7
  have HW4 := Lib.hid hw4
  clear hb4 hw4 hc4
  have hsz : (⟨(stBytes shownSt).toArray⟩ : ByteArray).size = 32 := by kernel_rfl
  have hgt : ∀ h : 0 < (⟨(stBytes shownSt).toArray⟩ : ByteArray).size, (((⟨(stBytes shownSt).toArray⟩ : ByteArray)[0]'h).toNat : Int) = 186 := by intro h; rfl
  generalize (⟨(stBytes shownSt).toArray⟩ : ByteArray) = bs at hsz hgt ⊢
  go_wp2_with fail
  exact bodyPost_ret (v := .bool true) (by simp [results, Tryd.results23, go_sem]) rfl ⟨rfl, HW4.out.alloc HW4.out.size _⟩
end Go.Proofs.YtfafidholldjlaaDoor
