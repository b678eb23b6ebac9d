/- Small functions of package digest: New, Len, Clone. -/
import Derived.Test.YtfafidholldjlaaDoorZH
import Derived.Test.YtfafidholldjlaaDoorZD
import Derived.Test.YtfafidholldjlaaDoorZI
import Derived.Lib.BufferWrite
import Derived.Lib.UnsafeStr
import Derived.Defers
import Derived.Deep.RegionHeld3
set_option linter.unusedVariables false
set_option linter.unusedSimpArgs false
namespace Go.Proofs.YtfafidholldjlaaDoor
open Go.RowKit
theorem new_any (w : World) : Calls Tryd.prog 42 #[] w fun e w' => ∃ h, e = .returned (.pointer (some ⟨h, 0, none⟩)) ∧ w.heap.size ≤ h ∧ w'.heap[h]? = some (.cells (hrow (.slice none 0 0) Sha.St.first 0) 93 (0, 0)) ∧ Below w.heap.size w w' := by
  go_enter Tryd.func42, Tryd.ntmps42
  go_wp2_with fail
  refine (first_any _).mono ?_
  rintro e w1 ⟨rfl, hb⟩
  have HB := Lib.hid hb
  clear hb
  go_wp2_with fail
  go_ret
  exact ⟨w1.heap.size, rfl, HB.out.size, alloc_heap _ _, HB.out.alloc HB.out.size _⟩
theorem len_any (h : Nat) (v : Value) (s : Sha.St) (n : Int) (w : World) (hh : w.heap[h]? = some (.cells (hrow v s n) 93 (0, 0))) : Calls Tryd.prog 45 #[.pointer (some ⟨h, 0, none⟩)] w fun e w' => e = .returned (.int .i64 n) ∧ w = w' := by
  have c9 : w.cell? ⟨h, 9, none⟩ = some (.int .i64 n) := cell_of hh 9
  clear hh
  go_enter Tryd.func45, Tryd.ntmps45
  go_wp2_with fail
  go_ret
  exact ⟨rfl, rfl⟩
set_option maxRecDepth 100000 in
set_option maxHeartbeats 1000000 in
theorem clone85 (s : ByteArray) (h0 : 0 < s.size) (hlim : s.size ≤ 1000000) (w : World) : Calls Tryd.prog 85 #[.string s] w fun e w' => e = .returned (.string s) ∧ Below w.heap.size w w' := by
  have hne0 : ¬ s.size = 0 := by omega
  have hmk := make_bytes s.size hlim (s.size : Int) rfl
  have hml : (List.replicate s.size (Value.int .u8 0)).toArray.size = s.size := by simp
  obtain ⟨M, hM⟩ : ∃ M, (List.replicate s.size (Value.int .u8 0)).toArray = M := ⟨_, rfl⟩
  rw [hM] at hml
  simp only [hM] at hmk
  have hcp := Lib.run_copy_row_string (P := Tryd.prog) (w.alloc (.cells M 5)) 40 9 3 5 w.heap.size 0 s.size s.size s M 5 Tryd.underlying40 size5 (heap_alloc_new w _) (Nat.le_refl _) (by omega)
  obtain ⟨Y, hY⟩ : ∃ Y, Y = (M.toList.take 0 ++ Lib.byteCells s.data.toList ++ M.toList.drop (0 + s.size)).toArray := ⟨_, rfl⟩
  rw [← hY] at hcp
  have hYl : Y.toList = Lib.byteCells s.data.toList := by
    rw [hY, List.toList_toArray, List.take_zero, List.nil_append, List.drop_of_length_le (by rw [Array.length_toList]; omega), List.append_nil]
  have hYs : Y.size = s.size := by rw [← Array.length_toList, hYl, Lib.byteCells_length, ← Lib.size_eq]
  have hgY : ((w.alloc (.cells M 5)).setRow w.heap.size Y).heap[w.heap.size]? = some (.cells Y 5 (0, 0)) := setRow_heap _ _ M _ 5 (0, 0) (heap_alloc_new w _)
  have hne : s.data.toList ≠ [] := fun e => hne0 (by rw [Lib.size_eq, e]; rfl)
  have hco : Tryd.prog.cellsOf 5 = 1 := by kernel_rfl
  have hUS := Lib.run_unsafeString_row (P := Tryd.prog) ((w.alloc (.cells M 5)).setRow w.heap.size Y) 144 3 9 5 Tryd.underlying144 hco w.heap.size Y.size (by unfold World.shape?; rw [hgY]) s.data.toList hne (by rw [← Lib.size_eq]; omega) (by rw [← Lib.size_eq]; omega)
    (fun j x hx => Lib.cells_of_row hgY Y.size j _ (by rw [List.take_of_length_le (by rw [Array.length_toList]; exact Nat.le_refl _), hYl]; simp [Lib.byteCells, hx]))
  rw [← Lib.size_eq] at hUS
  clear hY hM
  go_enter Tryd.func85, Tryd.ntmps85
  go_wp2
  go_ret
  have hb1 : Below w.heap.size w (w.alloc (.cells M 5)) := (Below.refl _ w).alloc (Nat.le_refl _) _
  have hb2 : Below w.heap.size (w.alloc (.cells M 5)) ((w.alloc (.cells M 5)).setRow w.heap.size Y) := ⟨rfl, rfl, rfl, by simp, fun k hk => setRow_other _ _ _ _ (by omega)⟩
  exact ⟨rfl, Lib.below_freeze (hb1.trans hb2) (p := ⟨w.heap.size, 0, none⟩) (Nat.le_refl _) _⟩
theorem clone_any (b : ByteArray) (h0 : 0 < b.size) (hb : b.size ≤ 1000000) (w : World) : Calls Tryd.prog 73 #[.string b] w fun e w' => e = .returned (.string b) ∧ Below w.heap.size w w' := by
  go_enter Tryd.func73, Tryd.ntmps73
  go_wp2_with fail
  refine (clone85 b h0 hb _).mono ?_
  rintro e w1 ⟨rfl, hb1⟩
  have HB := Lib.hid hb1
  clear hb1
  go_wp2_with fail
  go_ret
  exact ⟨rfl, HB.out⟩
end Go.Proofs.YtfafidholldjlaaDoor
/- Reset of package digest. -/
set_option linter.unusedVariables false
set_option linter.unusedSimpArgs false
namespace Go.Proofs.YtfafidholldjlaaDoor
open Go.RowKit
theorem store10 (W : World) (h : Nat) (T : TypeId) (a0 a1 a2 a3 a4 a5 a6 a7 a8 a9 v0 v1 v2 v3 v4 v5 v6 v7 v8 v9 : Value) (hh : W.heap[h]? = some (.cells #[a0, a1, a2, a3, a4, a5, a6, a7, a8, a9] T (0, 0))) :
    ((((((((((W.setCell ⟨h, 0, none⟩ v0).setCell ⟨h, 1, none⟩ v1).setCell ⟨h, 2, none⟩ v2).setCell ⟨h, 3, none⟩ v3).setCell ⟨h, 4, none⟩ v4).setCell ⟨h, 5, none⟩ v5).setCell ⟨h, 6, none⟩ v6).setCell ⟨h, 7, none⟩ v7).setCell ⟨h, 8, none⟩ v8).setCell ⟨h, 9, none⟩ v9).heap[h]? = some (.cells #[v0, v1, v2, v3, v4, v5, v6, v7, v8, v9] T (0, 0)) := by
  have g0 : (W.setCell ⟨h, 0, none⟩ v0).heap[h]? = some (.cells #[v0, a1, a2, a3, a4, a5, a6, a7, a8, a9] T (0, 0)) := setCell_heap hh 0 v0
  have g1 : ((W.setCell ⟨h, 0, none⟩ v0).setCell ⟨h, 1, none⟩ v1).heap[h]? = some (.cells #[v0, v1, a2, a3, a4, a5, a6, a7, a8, a9] T (0, 0)) := setCell_heap g0 1 v1
  have g2 : (((W.setCell ⟨h, 0, none⟩ v0).setCell ⟨h, 1, none⟩ v1).setCell ⟨h, 2, none⟩ v2).heap[h]? = some (.cells #[v0, v1, v2, a3, a4, a5, a6, a7, a8, a9] T (0, 0)) := setCell_heap g1 2 v2
  have g3 : ((((W.setCell ⟨h, 0, none⟩ v0).setCell ⟨h, 1, none⟩ v1).setCell ⟨h, 2, none⟩ v2).setCell ⟨h, 3, none⟩ v3).heap[h]? = some (.cells #[v0, v1, v2, v3, a4, a5, a6, a7, a8, a9] T (0, 0)) := setCell_heap g2 3 v3
  have g4 : (((((W.setCell ⟨h, 0, none⟩ v0).setCell ⟨h, 1, none⟩ v1).setCell ⟨h, 2, none⟩ v2).setCell ⟨h, 3, none⟩ v3).setCell ⟨h, 4, none⟩ v4).heap[h]? = some (.cells #[v0, v1, v2, v3, v4, a5, a6, a7, a8, a9] T (0, 0)) := setCell_heap g3 4 v4
  have g5 : ((((((W.setCell ⟨h, 0, none⟩ v0).setCell ⟨h, 1, none⟩ v1).setCell ⟨h, 2, none⟩ v2).setCell ⟨h, 3, none⟩ v3).setCell ⟨h, 4, none⟩ v4).setCell ⟨h, 5, none⟩ v5).heap[h]? = some (.cells #[v0, v1, v2, v3, v4, v5, a6, a7, a8, a9] T (0, 0)) := setCell_heap g4 5 v5
  have g6 : (((((((W.setCell ⟨h, 0, none⟩ v0).setCell ⟨h, 1, none⟩ v1).setCell ⟨h, 2, none⟩ v2).setCell ⟨h, 3, none⟩ v3).setCell ⟨h, 4, none⟩ v4).setCell ⟨h, 5, none⟩ v5).setCell ⟨h, 6, none⟩ v6).heap[h]? = some (.cells #[v0, v1, v2, v3, v4, v5, v6, a7, a8, a9] T (0, 0)) := setCell_heap g5 6 v6
  have g7 : ((((((((W.setCell ⟨h, 0, none⟩ v0).setCell ⟨h, 1, none⟩ v1).setCell ⟨h, 2, none⟩ v2).setCell ⟨h, 3, none⟩ v3).setCell ⟨h, 4, none⟩ v4).setCell ⟨h, 5, none⟩ v5).setCell ⟨h, 6, none⟩ v6).setCell ⟨h, 7, none⟩ v7).heap[h]? = some (.cells #[v0, v1, v2, v3, v4, v5, v6, v7, a8, a9] T (0, 0)) := setCell_heap g6 7 v7
  have g8 : (((((((((W.setCell ⟨h, 0, none⟩ v0).setCell ⟨h, 1, none⟩ v1).setCell ⟨h, 2, none⟩ v2).setCell ⟨h, 3, none⟩ v3).setCell ⟨h, 4, none⟩ v4).setCell ⟨h, 5, none⟩ v5).setCell ⟨h, 6, none⟩ v6).setCell ⟨h, 7, none⟩ v7).setCell ⟨h, 8, none⟩ v8).heap[h]? = some (.cells #[v0, v1, v2, v3, v4, v5, v6, v7, v8, a9] T (0, 0)) := setCell_heap g7 8 v8
  have g9 : ((((((((((W.setCell ⟨h, 0, none⟩ v0).setCell ⟨h, 1, none⟩ v1).setCell ⟨h, 2, none⟩ v2).setCell ⟨h, 3, none⟩ v3).setCell ⟨h, 4, none⟩ v4).setCell ⟨h, 5, none⟩ v5).setCell ⟨h, 6, none⟩ v6).setCell ⟨h, 7, none⟩ v7).setCell ⟨h, 8, none⟩ v8).setCell ⟨h, 9, none⟩ v9).heap[h]? = some (.cells #[v0, v1, v2, v3, v4, v5, v6, v7, v8, v9] T (0, 0)) := setCell_heap g8 9 v9
  exact g9
theorem far10 (D : Nat → Prop) (W0 W : World) (h : Nat) (v0 v1 v2 v3 v4 v5 v6 v7 v8 v9 : Value) (hf : Far D W0 W) (hD : h < W0.heap.size → D h) : Far D W0 ((((((((((W.setCell ⟨h, 0, none⟩ v0).setCell ⟨h, 1, none⟩ v1).setCell ⟨h, 2, none⟩ v2).setCell ⟨h, 3, none⟩ v3).setCell ⟨h, 4, none⟩ v4).setCell ⟨h, 5, none⟩ v5).setCell ⟨h, 6, none⟩ v6).setCell ⟨h, 7, none⟩ v7).setCell ⟨h, 8, none⟩ v8).setCell ⟨h, 9, none⟩ v9) :=
  Far.setCell (p := ⟨h, 9, none⟩) (Far.setCell (p := ⟨h, 8, none⟩) (Far.setCell (p := ⟨h, 7, none⟩) (Far.setCell (p := ⟨h, 6, none⟩) (Far.setCell (p := ⟨h, 5, none⟩) (Far.setCell (p := ⟨h, 4, none⟩) (Far.setCell (p := ⟨h, 3, none⟩) (Far.setCell (p := ⟨h, 2, none⟩) (Far.setCell (p := ⟨h, 1, none⟩) (Far.setCell (p := ⟨h, 0, none⟩) (hf) hD _) hD _) hD _) hD _) hD _) hD _) hD _) hD _) hD _) hD _
set_option maxRecDepth 100000 in
set_option maxHeartbeats 1000000 in
theorem reset_any (h : Nat) (v : Value) (s : Sha.St) (n : Int) (w : World) (hh : w.heap[h]? = some (.cells (hrow v s n) 93 (0, 0))) : Calls Tryd.prog 49 #[.pointer (some ⟨h, 0, none⟩)] w fun e w' => e = .returned (.tuple #[]) ∧ w'.heap[h]? = some (.cells (hrow (.slice none 0 0) Sha.St.first 0) 93 (0, 0)) ∧ Far (· = h) w w' := by
  have HH := Lib.hid hh
  have hl := lt_of_heap hh
  clear hh
  go_enter Tryd.func49, Tryd.ntmps49
  go_wp2_with fail
  refine (new_any _).mono ?_
  rintro e w1 ⟨g, rfl, hg, hrow1, hb1⟩
  have hrow1' : w1.heap[g]? = some (.cells #[.slice none 0 0, .int .i64 1779033703, .int .i64 3144134277, .int .i64 1013904242, .int .i64 2773480762, .int .i64 1359893119, .int .i64 2600822924, .int .i64 528734635, .int .i64 1541459225, .int .i64 0] 93 (0, 0)) := hrow1
  have hh1 : w1.heap[h]? = some (.cells #[v, .int .i64 s.a, .int .i64 s.b, .int .i64 s.c, .int .i64 s.d, .int .i64 s.e, .int .i64 s.f, .int .i64 s.g, .int .i64 s.h, .int .i64 n] 93 (0, 0)) := (hb1.block h hl).trans HH.out
  have hf1 := Far.of_below hb1 (· = h)
  have y0 : w1.cell? ⟨g, 0, none⟩ = some (.slice none 0 0) := cell_of hrow1' 0
  have y1 : w1.cell? ⟨g, 1, none⟩ = some (.int .i64 1779033703) := cell_of hrow1' 1
  have y2 : w1.cell? ⟨g, 2, none⟩ = some (.int .i64 3144134277) := cell_of hrow1' 2
  have y3 : w1.cell? ⟨g, 3, none⟩ = some (.int .i64 1013904242) := cell_of hrow1' 3
  have y4 : w1.cell? ⟨g, 4, none⟩ = some (.int .i64 2773480762) := cell_of hrow1' 4
  have y5 : w1.cell? ⟨g, 5, none⟩ = some (.int .i64 1359893119) := cell_of hrow1' 5
  have y6 : w1.cell? ⟨g, 6, none⟩ = some (.int .i64 2600822924) := cell_of hrow1' 6
  have y7 : w1.cell? ⟨g, 7, none⟩ = some (.int .i64 528734635) := cell_of hrow1' 7
  have y8 : w1.cell? ⟨g, 8, none⟩ = some (.int .i64 1541459225) := cell_of hrow1' 8
  have y9 : w1.cell? ⟨g, 9, none⟩ = some (.int .i64 0) := cell_of hrow1' 9
  have z0 : w1.cell? ⟨h, 0, none⟩ = some (v) := cell_of hh1 0
  have z1 : w1.cell? ⟨h, 1, none⟩ = some (.int .i64 s.a) := cell_of hh1 1
  have z2 : w1.cell? ⟨h, 2, none⟩ = some (.int .i64 s.b) := cell_of hh1 2
  have z3 : w1.cell? ⟨h, 3, none⟩ = some (.int .i64 s.c) := cell_of hh1 3
  have z4 : w1.cell? ⟨h, 4, none⟩ = some (.int .i64 s.d) := cell_of hh1 4
  have z5 : w1.cell? ⟨h, 5, none⟩ = some (.int .i64 s.e) := cell_of hh1 5
  have z6 : w1.cell? ⟨h, 6, none⟩ = some (.int .i64 s.f) := cell_of hh1 6
  have z7 : w1.cell? ⟨h, 7, none⟩ = some (.int .i64 s.g) := cell_of hh1 7
  have z8 : w1.cell? ⟨h, 8, none⟩ = some (.int .i64 s.h) := cell_of hh1 8
  have z9 : w1.cell? ⟨h, 9, none⟩ = some (.int .i64 n) := cell_of hh1 9
  have f0 : w1.frozen? ⟨h, 0, none⟩ = false := frozen_of hh1 0
  have f1 : w1.frozen? ⟨h, 1, none⟩ = false := frozen_of hh1 1
  have f2 : w1.frozen? ⟨h, 2, none⟩ = false := frozen_of hh1 2
  have f3 : w1.frozen? ⟨h, 3, none⟩ = false := frozen_of hh1 3
  have f4 : w1.frozen? ⟨h, 4, none⟩ = false := frozen_of hh1 4
  have f5 : w1.frozen? ⟨h, 5, none⟩ = false := frozen_of hh1 5
  have f6 : w1.frozen? ⟨h, 6, none⟩ = false := frozen_of hh1 6
  have f7 : w1.frozen? ⟨h, 7, none⟩ = false := frozen_of hh1 7
  have f8 : w1.frozen? ⟨h, 8, none⟩ = false := frozen_of hh1 8
  have f9 : w1.frozen? ⟨h, 9, none⟩ = false := frozen_of hh1 9
  have HH1 := Lib.hid hh1
  have HF1 := Lib.hid hf1
  clear hh1 hf1 hb1 hrow1 hrow1'
  go_wp2_with fail
  go_end0
  exact ⟨rfl, store10 w1 h 93 _ _ _ _ _ _ _ _ _ _ (.slice none 0 0) (.int .i64 1779033703) (.int .i64 3144134277) (.int .i64 1013904242) (.int .i64 2773480762) (.int .i64 1359893119) (.int .i64 2600822924) (.int .i64 528734635) (.int .i64 1541459225) (.int .i64 0) HH1.out, far10 (· = h) w w1 h (.slice none 0 0) (.int .i64 1779033703) (.int .i64 3144134277) (.int .i64 1013904242) (.int .i64 2773480762) (.int .i64 1359893119) (.int .i64 2600822924) (.int .i64 528734635) (.int .i64 1541459225) (.int .i64 0) HF1.out (fun _ => rfl)⟩
end Go.Proofs.YtfafidholldjlaaDoor
/- Write of package digest. -/
set_option linter.unusedVariables false
set_option linter.unusedSimpArgs false
namespace Go.Proofs.YtfafidholldjlaaDoor
open Go.RowKit
/-- A hasher that has taken a message in. -/
def HasherAt (W : World) (h : Nat) (m : List UInt8) : Prop :=
  ∃ v, W.heap[h]? = some (.cells (hrow v (Sha.St.first.after m (m.length / 64)) (m.length : Nat)) 93 (0, 0)) ∧ Rest W h v (m.drop (64 * (m.length / 64)))
theorem HasherAt.far {W W' : World} {h : Nat} {m : List UInt8} (hm : HasherAt W h m) {D : Nat → Prop} (hf : Far D W W') (hD : ∀ k, ¬ D k) : HasherAt W' h m := by
  obtain ⟨v, hr, hv⟩ := hm
  exact ⟨v, hf.heap hr (hD h), hv.far (hf.mono (fun k _ e => (hD k e).elim))⟩
theorem HasherAt.lt {W : World} {h : Nat} {m : List UInt8} (hm : HasherAt W h m) : h < W.heap.size := lt_of_heap hm.choose_spec.1
theorem hasher_new {W : World} {h : Nat} (hr : W.heap[h]? = some (.cells (hrow (.slice none 0 0) Sha.St.first 0) 93 (0, 0))) : HasherAt W h [] :=
  ⟨_, hr, none, 0, rfl, fun h0 => absurd h0 (Nat.lt_irrefl 0)⟩
theorem rest_len (m : List UInt8) : (m.drop (64 * (m.length / 64))).length = m.length % 64 := by rw [List.length_drop]; omega
theorem taken (m q : List UInt8) : (Sha.St.first.after m (m.length / 64)).after (m.drop (64 * (m.length / 64)) ++ q) ((m.length % 64 + q.length) / 64) = Sha.St.first.after (m ++ q) ((m ++ q).length / 64) := by
  rw [Sha.St.after_append _ _ _ _ _ (by omega)]
  congr 1
  rw [List.length_append]
  omega
theorem taken_rest (m q : List UInt8) : (m.drop (64 * (m.length / 64)) ++ q).drop (64 * ((m.length % 64 + q.length) / 64)) = (m ++ q).drop (64 * ((m ++ q).length / 64)) := by
  have e : (m ++ q).length / 64 = m.length / 64 + (m.length % 64 + q.length) / 64 := by rw [List.length_append]; omega
  have e2 : (m ++ q).drop (64 * (m.length / 64)) = m.drop (64 * (m.length / 64)) ++ q := List.drop_append_of_le_length (by omega)
  rw [e, Nat.mul_add, ← List.drop_drop, e2]
set_option maxRecDepth 100000 in
theorem write_ok {B : Nat} {aw ab : Addr} {w : World} (hG : Glob B aw ab w) (h : Nat) (hBh : B ≤ h) (m : List UInt8) (q : ByteArray) (hm : HasherAt w h m) (hn : m.length + q.size ≤ 100000) :
    Calls Tryd.prog 43 #[.pointer (some ⟨h, 0, none⟩), .string q] w fun e w' => e = .returned (.int .i64 0) ∧ HasherAt w' h (m ++ q.data.toList) ∧ Far (· = h) w w' := by
  obtain ⟨v, hr, hv⟩ := hm
  obtain ⟨S, hS⟩ : ∃ S, Sha.St.first.after m (m.length / 64) = S := ⟨_, rfl⟩
  have hok : S.ok := by rw [← hS]; exact Sha.St.after_ok first_ok _ _
  rw [hS] at hr
  have c9 : w.cell? ⟨h, 9, none⟩ = some (.int .i64 ((m.length : Nat) : Int)) := cell_of hr 9
  have f9 := frozen_of hr 9
  have h0 : (0 : Int) ≤ (m.length : Int) + (q.size : Int) := by omega
  have h1 : (m.length : Int) + (q.size : Int) ≤ 100000 := by omega
  have h2 : (m.length : Int) ≤ 100000 := by omega
  have h3 : (q.size : Int) ≤ 100000 := by omega
  have HG := Lib.hid hG
  have HR := Lib.hid hr
  have HV := Lib.hid hv
  have HS := Lib.hid hS
  have HOK := Lib.hid hok
  have HN := Lib.hid hn
  clear hG hr hv hS hok hn
  go_enter Tryd.func43, Tryd.ntmps43
  go_wp2_with fail
  refine (check_ok _ h0 h1 _).mono ?_
  rintro e w1 ⟨rfl, rfl⟩
  have hlh : h < w.heap.size := lt_of_heap HR.out
  have hrow1 : (w.setCell ⟨h, 9, none⟩ (.int .i64 ((m.length : Int) + (q.size : Int)))).heap[h]? = some (.cells (hrow v S ((m.length : Int) + (q.size : Int))) 93 (0, 0)) := setCell_heap HR.out 9 _
  have hf1 : Far (· = h) w (w.setCell ⟨h, 9, none⟩ (.int .i64 ((m.length : Int) + (q.size : Int)))) := Far.setCell (D := (· = h)) (p := ⟨h, 9, none⟩) (Far.refl _ _) (fun _ => rfl) _
  have hg1 := HG.out.below (hf1.to_below HG.out.size (by omega))
  have hrl := rest_len m
  have heat := eat_any hg1 h hBh v S HOK.out ((m.length : Int) + (q.size : Int)) (m.drop (64 * (m.length / 64))) q hrow1 (HV.out.far hf1) (by have := HN.out; omega) (by have := HN.out; omega)
  rw [hrl] at heat
  have HE := Lib.hid heat
  have HF1 := Lib.hid hf1
  clear hrow1 hf1 hg1 heat
  go_wp2_with fail
  refine HE.out.mono ?_
  rintro e w2 ⟨rfl, v', hr2, hv2, hf2⟩
  have hst := taken m q.data.toList
  have hrs := taken_rest m q.data.toList
  have hql : q.data.toList.length = q.size := rfl
  rw [hql, HS.out] at hst
  rw [hql] at hrs
  rw [hst] at hr2
  rw [hrs] at hv2
  have hlen : ((m.length : Int) + (q.size : Int)) = (((m ++ q.data.toList).length : Nat) : Int) := by rw [List.length_append, hql]; omega
  rw [hlen] at hr2
  have HR2 := Lib.hid hr2
  have HV2 := Lib.hid hv2
  have HF2 := Lib.hid (HF1.out.trans hf2)
  clear hr2 hv2 hf2 hst hrs hlen hrl
  go_wp2_with fail
  go_ret
  exact ⟨rfl, ⟨v', HR2.out, HV2.out⟩, HF2.out⟩
end Go.Proofs.YtfafidholldjlaaDoor
/- Sum of a hasher. -/
set_option linter.unusedVariables false
set_option linter.unusedSimpArgs false
namespace Go.Proofs.YtfafidholldjlaaDoor
open Go.RowKit
set_option maxRecDepth 100000 in
set_option maxHeartbeats 1000000 in
theorem restore_any (h bx : Nat) (sp : Option Addr) (k cap : Nat) (v2 : Value) (s s2 : Sha.St) (n n2 : Int) (u : FrameMode) (w : World) (hb : w.heap[bx]? = some (.cells #[.pointer (some ⟨h, 0, none⟩)] 46 (0, 0))) (hh : w.heap[h]? = some (.cells (hrow v2 s2 n2) 93 (0, 0))) :
    CallsD Tryd.prog 75 #[.agg (hrow (.slice sp k cap) s n), .pointer (some ⟨bx, 0, none⟩)] u w fun e u' w' => u' = u ∧ (e = .returned (.tuple #[]) ∧ w'.heap[h]? = some (.cells (hrow (.slice sp k cap) s n) 93 (0, 0)) ∧ Far (· = h) w w') := by
  have hh1 : w.heap[h]? = some (.cells #[v2, .int .i64 s2.a, .int .i64 s2.b, .int .i64 s2.c, .int .i64 s2.d, .int .i64 s2.e, .int .i64 s2.f, .int .i64 s2.g, .int .i64 s2.h, .int .i64 n2] 93 (0, 0)) := hh
  have c0 : w.cell? ⟨bx, 0, none⟩ = some (.pointer (some ⟨h, 0, none⟩)) := cell_of hb 0
  have z0 : w.cell? ⟨h, 0, none⟩ = some (v2) := cell_of hh1 0
  have z1 : w.cell? ⟨h, 1, none⟩ = some (.int .i64 s2.a) := cell_of hh1 1
  have z2 : w.cell? ⟨h, 2, none⟩ = some (.int .i64 s2.b) := cell_of hh1 2
  have z3 : w.cell? ⟨h, 3, none⟩ = some (.int .i64 s2.c) := cell_of hh1 3
  have z4 : w.cell? ⟨h, 4, none⟩ = some (.int .i64 s2.d) := cell_of hh1 4
  have z5 : w.cell? ⟨h, 5, none⟩ = some (.int .i64 s2.e) := cell_of hh1 5
  have z6 : w.cell? ⟨h, 6, none⟩ = some (.int .i64 s2.f) := cell_of hh1 6
  have z7 : w.cell? ⟨h, 7, none⟩ = some (.int .i64 s2.g) := cell_of hh1 7
  have z8 : w.cell? ⟨h, 8, none⟩ = some (.int .i64 s2.h) := cell_of hh1 8
  have z9 : w.cell? ⟨h, 9, none⟩ = some (.int .i64 n2) := cell_of hh1 9
  have f0 : w.frozen? ⟨h, 0, none⟩ = false := frozen_of hh1 0
  have f1 : w.frozen? ⟨h, 1, none⟩ = false := frozen_of hh1 1
  have f2 : w.frozen? ⟨h, 2, none⟩ = false := frozen_of hh1 2
  have f3 : w.frozen? ⟨h, 3, none⟩ = false := frozen_of hh1 3
  have f4 : w.frozen? ⟨h, 4, none⟩ = false := frozen_of hh1 4
  have f5 : w.frozen? ⟨h, 5, none⟩ = false := frozen_of hh1 5
  have f6 : w.frozen? ⟨h, 6, none⟩ = false := frozen_of hh1 6
  have f7 : w.frozen? ⟨h, 7, none⟩ = false := frozen_of hh1 7
  have f8 : w.frozen? ⟨h, 8, none⟩ = false := frozen_of hh1 8
  have f9 : w.frozen? ⟨h, 9, none⟩ = false := frozen_of hh1 9
  have HH1 := Lib.hid hh1
  have hlb : bx < w.heap.size := lt_of_heap hb
  have hlh : h < w.heap.size := lt_of_heap hh1
  clear hh hh1 hb
  unfold hrow
  go_enter_d Tryd.func75, Tryd.ntmps75
  go_wp2_with fail
  go_end0
  exact ⟨rfl, alloc_heap_old _ (store10 w h 93 _ _ _ _ _ _ _ _ _ _ (.slice sp k cap) (.int .i64 s.a) (.int .i64 s.b) (.int .i64 s.c) (.int .i64 s.d) (.int .i64 s.e) (.int .i64 s.f) (.int .i64 s.g) (.int .i64 s.h) (.int .i64 n) HH1.out), (far10 (· = h) w w h (.slice sp k cap) (.int .i64 s.a) (.int .i64 s.b) (.int .i64 s.c) (.int .i64 s.d) (.int .i64 s.e) (.int .i64 s.f) (.int .i64 s.g) (.int .i64 s.h) (.int .i64 n) (Far.refl _ _) (fun _ => rfl)).alloc _⟩
end Go.Proofs.YtfafidholldjlaaDoor
/- Sum of a hasher. -/
set_option linter.unusedVariables false
set_option linter.unusedSimpArgs false
namespace Go.Proofs.YtfafidholldjlaaDoor
open Go.RowKit
/-- A message's sum, as bytes. -/
def shaBytes (m : List UInt8) : ByteArray := ⟨(stBytes (Sha.sumOf m)).toArray⟩
set_option maxRecDepth 100000 in
set_option maxHeartbeats 4000000 in
theorem hsum_any {B : Nat} {aw ab : Addr} {w : World} (hG : Glob B aw ab w) (h : Nat) (hBh : B ≤ h) (m : List UInt8) (hm : HasherAt w h m) (hn : m.length ≤ 100000) :
    Calls Tryd.prog 44 #[.pointer (some ⟨h, 0, none⟩)] w fun e w' => e = .returned (.string (shaBytes m)) ∧ HasherAt w' h m ∧ Far (· = h) w w' := by
  obtain ⟨v, hr, hv⟩ := hm
  obtain ⟨sp, cap, rfl, hp⟩ := hv
  obtain ⟨S, hS⟩ : ∃ S, Sha.St.first.after m (m.length / 64) = S := ⟨_, rfl⟩
  have hok : S.ok := by rw [← hS]; exact Sha.St.after_ok first_ok _ _
  rw [hS] at hr
  obtain ⟨rl, hrl⟩ : ∃ x, (m.drop (64 * (m.length / 64))).length = x := ⟨_, rfl⟩
  have hr1 : w.heap[h]? = some (.cells #[.slice sp (m.drop (64 * (m.length / 64))).length cap, .int .i64 S.a, .int .i64 S.b, .int .i64 S.c, .int .i64 S.d, .int .i64 S.e, .int .i64 S.f, .int .i64 S.g, .int .i64 S.h, .int .i64 ((m.length : Nat) : Int)] 93 (0, 0)) := hr
  have hmf : ∀ (fn : Fn) (first cap : Array Value) (w : World), (Instr.makeFunc fn first cap).run Tryd.prog w = .ok (.func fn first cap) w := fun _ _ _ _ => rfl
  have hl := lt_of_heap hr
  have z0 : w.cell? ⟨h, 0, none⟩ = some (.slice sp (m.drop (64 * (m.length / 64))).length cap) := cell_of hr1 0
  have z1 : w.cell? ⟨h, 1, none⟩ = some (.int .i64 S.a) := cell_of hr1 1
  have z2 : w.cell? ⟨h, 2, none⟩ = some (.int .i64 S.b) := cell_of hr1 2
  have z3 : w.cell? ⟨h, 3, none⟩ = some (.int .i64 S.c) := cell_of hr1 3
  have z4 : w.cell? ⟨h, 4, none⟩ = some (.int .i64 S.d) := cell_of hr1 4
  have z5 : w.cell? ⟨h, 5, none⟩ = some (.int .i64 S.e) := cell_of hr1 5
  have z6 : w.cell? ⟨h, 6, none⟩ = some (.int .i64 S.f) := cell_of hr1 6
  have z7 : w.cell? ⟨h, 7, none⟩ = some (.int .i64 S.g) := cell_of hr1 7
  have z8 : w.cell? ⟨h, 8, none⟩ = some (.int .i64 S.h) := cell_of hr1 8
  have z9 : w.cell? ⟨h, 9, none⟩ = some (.int .i64 ((m.length : Nat) : Int)) := cell_of hr1 9
  have HG := Lib.hid hG
  have HR := Lib.hid hr
  have HV : Hid (Rest w h (.slice sp (m.drop (64 * (m.length / 64))).length cap) (m.drop (64 * (m.length / 64)))) := Lib.hid ⟨sp, cap, rfl, hp⟩
  have HS := Lib.hid hS
  have HOK := Lib.hid hok
  clear hG hr hp hS hok hr1 hrl
  obtain ⟨bs, hbs⟩ : ∃ bs, shaBytes m = bs := ⟨_, rfl⟩
  rw [hbs]
  have HBS := Lib.hid hbs
  clear hbs
  go_enter_defers Tryd.func44, Tryd.ntmps44
  go_wp2_with fail
  generalize hW1 : w.alloc (.cells #[.pointer (some ⟨h, 0, none⟩)] 46) = W1
  have hbx : W1.heap[w.heap.size]? = some (.cells #[.pointer (some ⟨h, 0, none⟩)] 46 (0, 0)) := by rw [← hW1]; exact alloc_heap_at _ _ _ rfl
  have hrow1 : W1.heap[h]? = some (.cells (hrow (.slice sp (m.drop (64 * (m.length / 64))).length cap) S (m.length : Nat)) 93 (0, 0)) := by rw [← hW1]; exact alloc_heap_old _ HR.out
  have hf1 : Far (· = h) w W1 := by rw [← hW1]; exact (Far.refl _ _).alloc _
  have hg1 : Glob B aw ab W1 := HG.out.below (hf1.to_below HG.out.size (by omega))
  have cb : W1.cell? ⟨w.heap.size, 0, none⟩ = some (.pointer (some ⟨h, 0, none⟩)) := cell_of hbx 0
  have c9 : W1.cell? ⟨h, 9, none⟩ = some (.int .i64 ((m.length : Nat) : Int)) := cell_of hrow1 9
  have hrest1 := HV.out.far hf1
  have hEl : (⟨(Sha.endOf m.length).toArray⟩ : ByteArray).size = (Sha.endOf m.length).length := by simp [ByteArray.size]
  have hEs : (Sha.endOf m.length).length ≤ 72 := by rw [Sha.endOf_length]; unfold Sha.zeros; omega
  have heat : ∀ (W2 : World), Below W1.heap.size W1 W2 → Calls Tryd.prog 74 #[.pointer (some ⟨h, 0, none⟩), .string ⟨(Sha.endOf m.length).toArray⟩] W2 fun e w3 => e = .returned (.tuple #[]) ∧ ∃ v', w3.heap[h]? = some (.cells (hrow v' (Sha.sumOf m) (m.length : Nat)) 93 (0, 0)) ∧ w3.heap[w.heap.size]? = some (.cells #[.pointer (some ⟨h, 0, none⟩)] 46 (0, 0)) ∧ Far (· = h) W1 w3 := by
    intro W2 hb
    have hx := eat_any (hg1.below (hb.mono hg1.size)) h hBh _ S HOK.out _ _ ⟨(Sha.endOf m.length).toArray⟩ ((hb.block h (lt_of_heap hrow1)).trans hrow1) (hrest1.far (Far.of_below hb _)) (by rw [rest_len]; omega) (by rw [hEl]; omega)
    refine hx.mono ?_
    rintro e w3 ⟨he, v', hr3, _, hf3⟩
    refine ⟨he, v', ?_, hf3.heap ((hb.block _ (lt_of_heap hbx)).trans hbx) (by omega), (Far.of_below hb _).trans hf3⟩
    have hst := taken m (Sha.endOf m.length)
    rw [HS.out] at hst
    rw [rest_len, hEl] at hr3
    rw [show (⟨(Sha.endOf m.length).toArray⟩ : ByteArray).data.toList = Sha.endOf m.length from rfl, hst] at hr3
    exact hr3
  have HE := Lib.hid heat
  have HBX := Lib.hid hbx
  have HROW1 := Lib.hid hrow1
  have HF1 := Lib.hid hf1
  have HG1 := Lib.hid hg1
  clear hW1 hbx hrow1 hf1 hg1 hrest1 hEl hEs heat z0 z1 z2 z3 z4 z5 z6 z7 z8 z9
  go_region_held3 (fun w' => w'.cell? ⟨w.heap.size, 0, none⟩ = some (.pointer (some ⟨h, 0, none⟩)) ∧ w'.cell? ⟨h, 9, none⟩ = some (.int .i64 ((m.length : Nat) : Int))) (first | (with_reducible exact ⟨cb3, c93⟩) | (with_reducible exact ⟨cb2, c92⟩) | go_keep)
    (first
      | (go_at_call 72; refine (end_any m.length hn _).mono ?_; rintro e w2 ⟨rfl, hb2⟩; have cb2 : w2.cell? ⟨w.heap.size, 0, none⟩ = some (.pointer (some ⟨h, 0, none⟩)) := cell_of ((hb2.block _ (lt_of_heap HBX.out)).trans HBX.out) 0; have c92 : w2.cell? ⟨h, 9, none⟩ = some (.int .i64 ((m.length : Nat) : Int)) := cell_of ((hb2.block _ (lt_of_heap HROW1.out)).trans HROW1.out) 9; have HB2 : Hid (Below W1.heap.size W1 w2) := Lib.hid (Below.trans (Below.refl _ _).drew hb2))
      | (go_at_call 74; refine (HE.out _ HB2.out).mono ?_; rintro e w3 ⟨rfl, v', hr3, hbx3, hf3⟩; have cb3 : w3.cell? ⟨w.heap.size, 0, none⟩ = some (.pointer (some ⟨h, 0, none⟩)) := cell_of hbx3 0; have c93 : w3.cell? ⟨h, 9, none⟩ = some (.int .i64 ((m.length : Nat) : Int)) := cell_of hr3 9; have HR3 := Lib.hid hr3; have HBX3 := Lib.hid hbx3; have HF3 := Lib.hid hf3; clear hr3 hbx3 hf3))
  obtain ⟨T, hT⟩ : ∃ T, Sha.sumOf m = T := ⟨_, rfl⟩
  have hTok : T.ok := by rw [← hT]; exact Sha.St.after_ok first_ok _ _
  have HT := Lib.hid hT
  have hr3 := HR3.out
  rw [hT] at hr3
  clear hT HR3
  have hr3' : w3.heap[h]? = some (.cells #[v', .int .i64 T.a, .int .i64 T.b, .int .i64 T.c, .int .i64 T.d, .int .i64 T.e, .int .i64 T.f, .int .i64 T.g, .int .i64 T.h, .int .i64 ((m.length : Nat) : Int)] 93 (0, 0)) := hr3
  have hgl3 := HG1.out.below (HF3.out.to_below HG1.out.size (by omega))
  have y0 : w3.cell? ⟨h, 0, none⟩ = some (v') := cell_of hr3' 0
  have y1 : w3.cell? ⟨h, 1, none⟩ = some (.int .i64 T.a) := cell_of hr3' 1
  have y2 : w3.cell? ⟨h, 2, none⟩ = some (.int .i64 T.b) := cell_of hr3' 2
  have y3 : w3.cell? ⟨h, 3, none⟩ = some (.int .i64 T.c) := cell_of hr3' 3
  have y4 : w3.cell? ⟨h, 4, none⟩ = some (.int .i64 T.d) := cell_of hr3' 4
  have y5 : w3.cell? ⟨h, 5, none⟩ = some (.int .i64 T.e) := cell_of hr3' 5
  have y6 : w3.cell? ⟨h, 6, none⟩ = some (.int .i64 T.f) := cell_of hr3' 6
  have y7 : w3.cell? ⟨h, 7, none⟩ = some (.int .i64 T.g) := cell_of hr3' 7
  have y8 : w3.cell? ⟨h, 8, none⟩ = some (.int .i64 T.h) := cell_of hr3' 8
  have y9 : w3.cell? ⟨h, 9, none⟩ = some (.int .i64 ((m.length : Nat) : Int)) := cell_of hr3' 9
  have HR3 := Lib.hid hr3
  have HGL3 := Lib.hid hgl3
  have HTOK := Lib.hid hTok
  clear hr3 hr3' hgl3 hTok cb2 c92 c93
  go_wp2_with fail
  refine (bytes_ok T HTOK.out HGL3.out).mono ?_
  rintro e w4 ⟨rfl, hb4⟩
  have hr4 := (hb4.block h (lt_of_heap HR3.out)).trans HR3.out
  have hbx4 := (hb4.block _ (lt_of_heap HBX3.out)).trans HBX3.out
  have hf4 : Far (· = h) w w4 := (HF1.out.trans HF3.out).below hb4
  have HR4 := Lib.hid hr4
  have HBX4 := Lib.hid hbx4
  have HF4 := Lib.hid hf4
  have hsb : (⟨(stBytes T).toArray⟩ : ByteArray) = bs := by rw [← HBS.out]; unfold shaBytes; rw [HT.out]
  rw [hsb]
  clear hr4 hbx4 hf4 hsb y0 y1 y2 y3 y4 y5 y6 y7 y8 y9 hb4
  go_wp2_with fail
  refine leaves_cons (f := 75) (args := #[.agg (hrow (.slice sp (m.length - 64 * (m.length / 64)) cap) S ((m.length : Nat) : Int)), .pointer (some ⟨w.heap.size, 0, none⟩)]) (by simp) (by simp [go_sem, hrow]) ?_
  refine (restore_any h w.heap.size sp (m.length - 64 * (m.length / 64)) cap _ S _ ((m.length : Nat) : Int) _ .returning _ HBX4.out HR4.out).mono ?_
  rintro e u' w'' ⟨rfl, rfl, hr5, hf5⟩
  have hfar := HF4.out.trans hf5
  have hrs := HV.out.far hfar
  rw [List.length_drop] at hrs
  exact ⟨_, results_tmp rfl _ _ _, rfl, ⟨_, by rw [HS.out]; exact hr5, hrs⟩, hfar⟩
end Go.Proofs.YtfafidholldjlaaDoor
/- digest.Sum: a message's sum, of at most a hundred thousand bytes; of more. -/
set_option linter.unusedVariables false
set_option linter.unusedSimpArgs false
namespace Go.Proofs.YtfafidholldjlaaDoor
open Go.RowKit
theorem shaBytes_size (m : List UInt8) : (shaBytes m).size = 32 := by
  show (stBytes (Sha.sumOf m)).toArray.size = 32
  simp [stBytes, wordBytes]
set_option maxRecDepth 100000 in
theorem dsum_ok {B : Nat} {aw ab : Addr} {w : World} (hG : Glob B aw ab w) (s : ByteArray) (hs : s.size ≤ 100000) :
    Calls Tryd.prog 40 #[.string s] w fun e w' => e = .returned (.tuple #[.string (shaBytes s.data.toList), .int .i64 0]) ∧ Below w.heap.size w w' := by
  have HG := Lib.hid hG
  have HSZ := Lib.hid hs
  obtain ⟨bs, hbs⟩ : ∃ bs, shaBytes s.data.toList = bs := ⟨_, rfl⟩
  have hb32 : bs.size = 32 := by rw [← hbs]; exact shaBytes_size _
  rw [hbs]
  have HBS := Lib.hid hbs
  have HB32 := Lib.hid hb32
  clear hG hs hbs hb32
  go_enter Tryd.func40, Tryd.ntmps40
  go_wp2_with fail
  refine (new_any _).mono ?_
  rintro e w1 ⟨h, rfl, hh, hr, hb1⟩
  have HN := Lib.hid (hasher_new hr)
  have HB1 := Lib.hid hb1
  clear hr hb1
  go_wp2_with fail
  refine (write_ok (HG.out.below (HB1.out.mono HG.out.size)) h (Nat.le_trans HG.out.size hh) [] s HN.out (by simpa using HSZ.out)).mono ?_
  rintro e w2 ⟨rfl, hm2, hf2⟩
  have hb2 : Below w.heap.size w w2 := HB1.out.trans (hf2.to_below HB1.out.size (by omega))
  rw [List.nil_append] at hm2
  have HM2 := Lib.hid hm2
  have HB2 := Lib.hid hb2
  clear hm2 hb2 hf2
  go_wp2_with fail
  refine (hsum_any (HG.out.below (HB2.out.mono HG.out.size)) h (Nat.le_trans HG.out.size hh) _ HM2.out (by exact HSZ.out)).mono ?_
  rintro e w3 ⟨rfl, hm3, hf3⟩
  have hb3 : Below w.heap.size w w3 := HB2.out.trans (hf3.to_below HB2.out.size (by omega))
  rw [HBS.out]
  have HB3 := Lib.hid hb3
  clear hm3 hf3 hb3
  go_wp2_with fail
  refine (clone_any bs (by have := HB32.out; omega) (by have := HB32.out; omega) _).mono ?_
  rintro e w4 ⟨rfl, hb4⟩
  have HB4 := Lib.hid (HB3.out.trans (hb4.mono HB3.out.size))
  clear hb4
  go_wp2_with fail
  exact bodyPost_ret (v := _) (by simp [results, Tryd.results40, go_sem]) rfl ⟨rfl, HB4.out⟩
set_option maxRecDepth 100000 in
theorem write_long {w : World} (h : Nat) (m : List UInt8) (q : ByteArray) (hm : HasherAt w h m) (hn : 100000 < m.length + q.size) (hq : q.size ≤ 1000000) (hml : m.length ≤ 1000000) (hg : w.cell? ⟨4, 0, none⟩ = some (.iface 157 (.agg #[.pointer (some ⟨6, 67, none⟩)]))) (h4 : 4 < w.heap.size) :
    Calls Tryd.prog 43 #[.pointer (some ⟨h, 0, none⟩), .string q] w fun e w' => e = .returned (.int .i64 20) ∧ HasherAt w' h m ∧ Below w.heap.size w w' := by
  obtain ⟨v, hr, hv⟩ := hm
  have c9 : w.cell? ⟨h, 9, none⟩ = some (.int .i64 ((m.length : Nat) : Int)) := cell_of hr 9
  have h1 : 100000 < (m.length : Int) + (q.size : Int) := by omega
  have h2 : (m.length : Int) ≤ 1000000 := by omega
  have h3 : (q.size : Int) ≤ 1000000 := by omega
  have HM : Hid (HasherAt w h m) := Lib.hid ⟨v, hr, hv⟩
  have Hg := Lib.hid hg
  clear hr hv hg
  go_enter Tryd.func43, Tryd.ntmps43
  go_wp2_with fail
  refine (check_bad _ (.inr h1) _).mono ?_
  rintro e w1 ⟨⟨k, rfl⟩, rfl⟩
  go_wp2_with fail
  refine (dtold_long k _ Hg.out h4).mono ?_
  rintro e w1 ⟨rfl, hb⟩
  have HB := Lib.hid hb
  clear hb
  go_wp2_with fail
  go_ret
  obtain ⟨v, hr, hv⟩ := HM.out
  exact ⟨rfl, ⟨v, (HB.out.block h (lt_of_heap hr)).trans hr, hv.far (Far.of_below HB.out _)⟩, HB.out⟩
end Go.Proofs.YtfafidholldjlaaDoor
