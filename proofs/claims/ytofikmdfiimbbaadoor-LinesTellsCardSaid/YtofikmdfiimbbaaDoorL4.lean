/- A row's line. -/
import Derived.Test.YtofikmdfiimbbaaDoorGb
import Derived.Test.YtofikmdfiimbbaaDoorPc
import Derived.Test.YtofikmdfiimbbaaDoorL3
import Derived.Deep.Cut
import Derived.Deep.CutRange
import Derived.BigGuard
import Derived.Deep.RegionHeld3
import Derived.Deep.DrawnRows
import Derived.BigRegion
import Derived.Deep.Draws
set_option linter.unusedVariables false
set_option linter.unusedSimpArgs false
namespace Go.Proofs.YtofikmdfiimbbaaDoor
open Go.RowKit
attribute [local go_sem ↓] Go.wp_at_zero Go.wp_at_succ
theorem store3 (W : World) (b : Nat) (T : TypeId) (a0 a1 a2 v0 v1 v2 : Value) (h : W.heap[b]? = some (.cells #[a0, a1, a2] T (0, 0))) :
    (((W.setCell ⟨b, 0, none⟩ v0).setCell ⟨b, 1, none⟩ v1).setCell ⟨b, 2, none⟩ v2).heap[b]? = some (.cells #[v0, v1, v2] T (0, 0)) := by
  have h0 : (W.setCell ⟨b, 0, none⟩ v0).heap[b]? = some (.cells #[v0, a1, a2] T (0, 0)) := setCell_heap h 0 v0
  have h1 : ((W.setCell ⟨b, 0, none⟩ v0).setCell ⟨b, 1, none⟩ v1).heap[b]? = some (.cells #[v0, v1, a2] T (0, 0)) := setCell_heap h0 1 v1
  exact setCell_heap h1 2 v2
theorem size36 : (Tryd.prog.info? 36).map (·.size) = some 3 := by kernel_rfl
theorem line_done (W : World) (p : Nat) (n i : Int) (t : ByteArray) (b : Bool) (tmps : Array Value) (h : W.heap[p]? = some (.cells #[.int .i64 n, .int .i64 i, .string t] 36 (0, 0))) (h2 : tmps.getD 2 undef = .pointer (some ⟨p, 0, none⟩)) (h3 : tmps.getD 3 undef = .bool b) :
    (results Tryd.f21 tmps).run Tryd.prog W.drew = .ok (.tuple #[.agg #[.int .i64 n, .int .i64 i, .string t], .bool b]) W.drew := by
  have h2' : tmps[2]?.getD undef = .pointer (some ⟨p, 0, none⟩) := by simpa using h2
  have h3' : tmps[3]?.getD undef = .bool b := by simpa using h3
  have hl := run_loadVar_row (P := Tryd.prog) W.drew p 36 36 _ (0, 0) _ h Tryd.underlying36 rfl size36
  simp [results, Tryd.results21, asAddr, h2', h3', hl, Sem.run_bind, Result.andThen]
theorem says_ways (t s : ByteArray) (h : t.data.toList = Ln.lead s.data.toList) :
    (t.toList.isEmpty = true ∧ Ln.says s.data.toList = false) ∨ (t.toList.isEmpty = false ∧ ∃ hp : 0 < t.size, (((t[0]'hp).toNat : Int) == 35) = true ∧ Ln.says s.data.toList = false) ∨
    (t.toList.isEmpty = false ∧ ∃ hp : 0 < t.size, (((t[0]'hp).toNat : Int) == 35) = false ∧ Ln.says s.data.toList = true) := by
  unfold Ln.says
  rw [← h]
  by_cases hl : 0 < t.size
  · have h' : 0 < t.data.toList.length := by rw [text_size]; exact hl
    have h1 : t.data.toList ≠ [] := by intro e; rw [e] at h'; simp at h'
    have h2 : t.data.toList.head? = some (t[0]'hl) := by
      rw [List.head?_eq_getElem?, List.getElem?_eq_getElem h']
      rfl
    have he : t.toList.isEmpty = false := by
      rw [ByteArray.toList_eq]
      simpa using h1
    rw [h2]
    by_cases hx : (t[0]'hl) = 35
    · exact .inr (.inl ⟨he, hl, by rw [hx]; rfl, by simp [hx]⟩)
    · refine .inr (.inr ⟨he, hl, ?_, by simp [h1, hx]⟩)
      have : ¬ ((t[0]'hl).toNat : Int) = 35 := fun e => hx (UInt8.toNat_inj.1 (by show (t[0]'hl).toNat = 35; omega))
      simpa using this
  · have h1 : t.data.toList = [] := by
      have := text_size t
      cases hd : t.data.toList with
      | nil => rfl
      | cons x u => rw [hd] at this; simp at this; omega
    refine .inl ⟨by rw [ByteArray.toList_eq, h1]; rfl, by rw [h1]; rfl⟩
set_option maxRecDepth 100000 in
set_option maxHeartbeats 2000000 in
theorem line_any (s : ByteArray) (hs : s.size ≤ 1000000) (no : Int) (w : World) : Calls Tryd.prog 21 #[.agg #[.string s, .int .i64 no]] w fun e w' =>
    (∃ n i t, e = .returned (.tuple #[.agg #[.int .i64 n, .int .i64 i, .string t], .bool (Ln.says s.data.toList)]) ∧ (⟨n, i, t.data.toList⟩ : Ln.Line) = Ln.lineOf no s.data.toList) ∧ Below w.heap.size w w' := by
  obtain ⟨t1, ht1⟩ : ∃ t : ByteArray, (⟨(Lib.trimLeftB s.data.toList 32).toArray⟩ : ByteArray) = t := ⟨_, rfl⟩
  obtain ⟨t2, ht2⟩ : ∃ t : ByteArray, (⟨(Lib.trimRightB t1.data.toList 32).toArray⟩ : ByteArray) = t := ⟨_, rfl⟩
  have hc1 := fun w => Tryd.strings_TrimLeft_one s 32 (by decide) w
  have hl1 : t1.data.toList = Ln.lead s.data.toList := by rw [← ht1]; rfl
  have hz1 : t1.size ≤ s.size := by
    have h := congrArg List.length hl1
    rw [text_size] at h
    rw [h, ← text_size]
    exact (List.dropWhile_suffix _).length_le
  have hc2 := fun w => Tryd.strings_TrimRight_one t1 32 (by decide) w (by omega)
  have hl2 : t2.data.toList = Ln.tail (Ln.lead s.data.toList) := by rw [← ht2, hl1]; rfl
  simp only [ht1] at hc1
  simp only [ht2] at hc2
  clear ht1 ht2
  obtain ⟨sy, hsy⟩ : ∃ b, Ln.says s.data.toList = b := ⟨_, rfl⟩
  rw [hsy]
  go_enter Tryd.func21, Tryd.ntmps21
  go_wp2_with fail
  refine (hc1 _).mono ?_
  rintro e w1 ⟨rfl, rfl⟩
  have c0 : ((w.alloc (Obj.cells #[Value.string s, Value.int IntKind.i64 no] 51)).alloc (Obj.cells #[Value.int IntKind.i64 0, Value.int IntKind.i64 0, Value.string { data := #[] }] 36)).heap[w.heap.size]? = some (.cells #[.string s, .int .i64 no] 51 (0, 0)) := alloc_heap_old _ (alloc_heap w _)
  have c1 : ((w.alloc (Obj.cells #[Value.string s, Value.int IntKind.i64 no] 51)).alloc (Obj.cells #[Value.int IntKind.i64 0, Value.int IntKind.i64 0, Value.string { data := #[] }] 36)).heap[w.heap.size + 1]? = some (.cells #[Value.int IntKind.i64 0, Value.int IntKind.i64 0, Value.string { data := #[] }] 36 (0, 0)) := alloc_heap_at _ _ _ (by simp)
  have hb : Below w.heap.size w ((w.alloc (Obj.cells #[Value.string s, Value.int IntKind.i64 no] 51)).alloc (Obj.cells #[Value.int IntKind.i64 0, Value.int IntKind.i64 0, Value.string { data := #[] }] 36)) := ((Below.refl _ _).alloc (Nat.le_refl _) _).alloc (by simp) _
  go_upto_region 2 with (fail)
  generalize ((w.alloc (Obj.cells #[Value.string s, Value.int IntKind.i64 no] 51)).alloc (Obj.cells #[Value.int IntKind.i64 0, Value.int IntKind.i64 0, Value.string { data := #[] }] 36)) = W1 at c0 c1 hb ⊢
  have d0 : W1.cell? ⟨w.heap.size, 0, none⟩ = some (.string s) := cell_of c0 0
  have d1 : W1.cell? ⟨w.heap.size, 1, none⟩ = some (.int .i64 no) := cell_of c0 1
  have hlt := lt_of_heap c0
  have C0 := Lib.hid c0
  have C1 := Lib.hid c1
  have HB := Lib.hid hb
  have hw1 : IntKind.i64.wrap ((s.size : Int) - (t1.size : Int)) = (s.size : Int) - (t1.size : Int) := IntWalk.i64_in _ (by omega)
  clear c0 c1 hb
  go_cut [5] from 10 (fun s1 wx => s1 = .pointer (some ⟨W1.heap.size, 0, none⟩) ∧ wx = (W1.alloc (Obj.cells #[Value.int IntKind.i64 no, Value.int IntKind.i64 (↑s.size - ↑t1.size), Value.string t2] 36)).drew)
  case first =>
    go_region_held3 (fun w' => w'.cell? ⟨w.heap.size, 0, none⟩ = some (.string s) ∧ w'.cell? ⟨w.heap.size, 1, none⟩ = some (.int .i64 no)) (go_keep) (first | (go_at_call 37; refine (hc2 _).mono ?_; rintro e wz ⟨rfl, rfl⟩))
    all_goals go_wp2_with fail
    all_goals go_meet
    all_goals exact ⟨rfl, rfl⟩
  case rest =>
    obtain ⟨rfl, rfl⟩ := hcut
    have e0 : (W1.alloc (Obj.cells #[Value.int IntKind.i64 no, Value.int IntKind.i64 (↑s.size - ↑t1.size), Value.string t2] 36)).drew.heap[W1.heap.size]? = some (.cells #[Value.int IntKind.i64 no, Value.int IntKind.i64 (↑s.size - ↑t1.size), Value.string t2] 36 (0, 0)) := alloc_heap _ _
    have e1 : (W1.alloc (Obj.cells #[Value.int IntKind.i64 no, Value.int IntKind.i64 (↑s.size - ↑t1.size), Value.string t2] 36)).drew.heap[w.heap.size + 1]? = some (.cells #[Value.int IntKind.i64 0, Value.int IntKind.i64 0, Value.string { data := #[] }] 36 (0, 0)) := alloc_heap_old (w := W1) _ C1.out
    have hb : Below w.heap.size w (W1.alloc (Obj.cells #[Value.int IntKind.i64 no, Value.int IntKind.i64 (↑s.size - ↑t1.size), Value.string t2] 36)).drew := (HB.out.alloc HB.out.size _).drew
    generalize (W1.alloc (Obj.cells #[Value.int IntKind.i64 no, Value.int IntKind.i64 (↑s.size - ↑t1.size), Value.string t2] 36)).drew = W2 at e0 e1 hb ⊢
    generalize W1.heap.size = b at e0 ⊢
    clear C0 C1 HB d0 d1 hlt
    have y0 : W2.cell? ⟨b, 0, none⟩ = some (.int .i64 no) := cell_of e0 0
    have y1 : W2.cell? ⟨b, 1, none⟩ = some (.int .i64 (↑s.size - ↑t1.size)) := cell_of e0 1
    have y2 : W2.cell? ⟨b, 2, none⟩ = some (.string t2) := cell_of e0 2
    have k0 : W2.cell? ⟨w.heap.size + 1, 0, none⟩ = some (.int .i64 0) := cell_of e1 0
    have k1 : W2.cell? ⟨w.heap.size + 1, 1, none⟩ = some (.int .i64 0) := cell_of e1 1
    have k2 : W2.cell? ⟨w.heap.size + 1, 2, none⟩ = some (.string ⟨#[]⟩) := cell_of e1 2
    have z0 : W2.frozen? ⟨w.heap.size + 1, 0, none⟩ = false := frozen_of e1 0
    have z1 : W2.frozen? ⟨w.heap.size + 1, 1, none⟩ = false := frozen_of e1 1
    have z2 : W2.frozen? ⟨w.heap.size + 1, 2, none⟩ = false := frozen_of e1 2
    have E1 := Lib.hid e1
    have HB := Lib.hid hb
    clear e1 hb
    have hline : (⟨no, ↑s.size - ↑t1.size, t2.data.toList⟩ : Ln.Line) = Ln.lineOf no s.data.toList := by
      unfold Ln.lineOf
      rw [hl2, ← hl1, text_size, text_size]
    have HLN := Lib.hid hline
    clear hline
    rcases says_ways t1 s hl1 with ⟨he, hS⟩ | ⟨he, hp, hx, hS⟩ | ⟨he, hp, hx, hS⟩
    · obtain rfl : sy = false := hsy.symm.trans hS
      go_upto_region 3 with (fail)
      go_region
      go_wp2_with fail
      exact bodyPost_ret (line_done _ _ _ _ _ _ _ (store3 W2 _ _ _ _ _ _ _ _ E1.out) rfl rfl) rfl ⟨⟨_, _, _, rfl, HLN.out⟩, (((HB.out.setCell (Nat.le_succ _) _).setCell (Nat.le_succ _) _).setCell (Nat.le_succ _) _).drew⟩
    · obtain rfl : sy = false := hsy.symm.trans hS
      go_upto_region 3 with (fail)
      go_region
      go_wp2_with fail
      exact bodyPost_ret (line_done _ _ _ _ _ _ _ (store3 W2 _ _ _ _ _ _ _ _ E1.out) rfl rfl) rfl ⟨⟨_, _, _, by rw [show (((t1[0]'hp).toNat : Int) != 35) = false from by show (!((t1[0]'hp).toNat : Int) == 35) = false; rw [hx]; rfl], HLN.out⟩, (((HB.out.setCell (Nat.le_succ _) _).setCell (Nat.le_succ _) _).setCell (Nat.le_succ _) _).drew⟩
    · obtain rfl : sy = true := hsy.symm.trans hS
      go_upto_region 3 with (fail)
      go_region
      go_wp2_with fail
      exact bodyPost_ret (line_done _ _ _ _ _ _ _ (store3 W2 _ _ _ _ _ _ _ _ E1.out) rfl rfl) rfl ⟨⟨_, _, _, by rw [show (((t1[0]'hp).toNat : Int) != 35) = true from by show (!((t1[0]'hp).toNat : Int) == 35) = true; rw [hx]; rfl], HLN.out⟩, (((HB.out.setCell (Nat.le_succ _) _).setCell (Nat.le_succ _) _).setCell (Nat.le_succ _) _).drew⟩
end Go.Proofs.YtofikmdfiimbbaaDoor
