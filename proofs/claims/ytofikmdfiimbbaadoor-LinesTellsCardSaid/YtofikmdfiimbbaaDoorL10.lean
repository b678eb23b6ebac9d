/- May a line be joined? -/
import Derived.Test.YtofikmdfiimbbaaDoorL9
import Derived.Test.YtofikmdfiimbbaaDoorL8
import Derived.Test.YtofikmdfiimbbaaDoorPd
import Derived.Deep.DrawnRows
import Derived.Deep.RegionHeld3
import Derived.Deep.QuietTactic
import Derived.BigQuiet
set_option linter.unusedVariables false
set_option linter.unusedSimpArgs false
namespace Go.Proofs.YtofikmdfiimbbaaDoor
open Go.RowKit
attribute [local go_sem ↓] Go.wp_at_zero Go.wp_at_succ
theorem six_cells (b0 b1 b2 b3 b4 b5 : Bool) (W : World) : ∀ (i : Nat) (b : Bool), [b0, b1, b2, b3, b4, b5][i]? = some b → (W.alloc (.cells #[.bool b0, .bool b1, .bool b2, .bool b3, .bool b4, .bool b5] 4)).cell? ⟨W.heap.size, i, none⟩ = some (.bool b) := by
  intro i b h
  rw [cell_of (alloc_heap W _) i]
  match i, h with
  | 0, h | 1, h | 2, h | 3, h | 4, h | 5, h => simp at h; subst h; rfl
  | i + 6, h => simp at h
theorem Below.drewN' {B : Nat} {a b : World} (h : Below B a b) (n : Nat) : Below B a (b.drewN n) := ⟨h.os, h.tape, h.output, h.size, h.block⟩
theorem ta_nil (w : World) : (Instr.typeAssert .nilIface 46 77 true).run Tryd.prog w = .ok (.tuple #[.agg #[], .bool false]) w := by kernel_rfl
theorem ta_sign (w : World) : (Instr.typeAssert (.iface 76 (.agg #[])) 46 77 true).run Tryd.prog w = .ok (.tuple #[.agg #[], .bool false]) w := by kernel_rfl
theorem ta_mark (w : World) : (Instr.typeAssert (.iface 77 (.agg #[])) 46 77 true).run Tryd.prog w = .ok (.tuple #[.agg #[], .bool true]) w := by kernel_rfl
attribute [local go_sem] ta_nil ta_sign ta_mark
theorem trim_any (s : ByteArray) (hs : s.size ≤ 1000000) (w : World) : Calls Tryd.prog 39 #[.string s, .string ⟨#[32]⟩] w fun e w' => e = .returned (.string ⟨(Lib.trimB s.data.toList 32).toArray⟩) ∧ ∃ n, w' = w.drewN n := by
  refine (Tryd.strings_Trim_one s 32 (by decide) w (by omega)).mono ?_
  rintro e w' ⟨he, h | h⟩
  · exact ⟨he, 0, h⟩
  · exact ⟨he, 1, h⟩
set_option maxRecDepth 100000 in
set_option maxHeartbeats 2000000 in
theorem may_any (no ind last : Int) (s : ByteArray) (hs : s.size ≤ 1000000) (w : World) (hG : Glob w) : Calls Tryd.prog 25 #[.agg #[.int .i64 no, .int .i64 ind, .string s], .int .i64 last] w fun e w' =>
    e = .returned (.bool (Ln.may last ⟨no, ind, s.data.toList⟩)) ∧ Below w.heap.size w w' := by
  obtain ⟨R, hR⟩ : ∃ R, Ln.may last ⟨no, ind, s.data.toList⟩ = R := ⟨_, rfl⟩
  rw [hR]
  obtain ⟨rt, hrt⟩ : ∃ b, Ln.right s.data.toList = b := ⟨_, rfl⟩
  obtain ⟨ne, hne⟩ : ∃ b : Bool, (s.toList.isEmpty) = b := ⟨_, rfl⟩
  have hcr := fun w hG => right_any s hs w hG
  rw [hrt] at hcr
  have HCR := Lib.hid hcr
  have HR := Lib.hid hR
  have HG := Lib.hid hG
  have HRT := Lib.hid hrt
  clear hcr hR hG hrt
  go_enter Tryd.func25, Tryd.ntmps25
  have hb0 : Below w.heap.size w (w.alloc (Obj.cells #[Value.int IntKind.i64 no, Value.int IntKind.i64 ind, Value.string s] 36)) := (Below.refl _ _).alloc (Nat.le_refl _) _
  have e0 : (w.alloc (Obj.cells #[Value.int IntKind.i64 no, Value.int IntKind.i64 ind, Value.string s] 36)).heap[w.heap.size]? = some (.cells #[Value.int IntKind.i64 no, Value.int IntKind.i64 ind, Value.string s] 36 (0, 0)) := alloc_heap _ _
  go_upto_region 1 with (fail)
  generalize w.alloc (Obj.cells #[Value.int IntKind.i64 no, Value.int IntKind.i64 ind, Value.string s] 36) = W1 at hb0 e0 ⊢
  have y0 : W1.cell? ⟨w.heap.size, 0, none⟩ = some (.int .i64 no) := cell_of e0 0
  have y1 : W1.cell? ⟨w.heap.size, 1, none⟩ = some (.int .i64 ind) := cell_of e0 1
  have y2 : W1.cell? ⟨w.heap.size, 2, none⟩ = some (.string s) := cell_of e0 2
  have hGW := HG.out.step hb0
  have hG1 : Glob W1.drew := hGW.step ((Below.refl _ _).drew)
  have HG1 := Lib.hid hG1
  have HB0 := Lib.hid hb0
  have E0 := Lib.hid e0
  clear hGW hG1 hb0 e0
  obtain ⟨al, hal⟩ : ∃ b, [decide (last < no), decide (no ≤ 8000), decide (0 ≤ ind), decide (ind ≤ 8000), !ne, rt].all id = b := ⟨_, rfl⟩
  have hall := fun (W : World) => all_any [decide (last < no), decide (no ≤ 8000), decide (0 ≤ ind), decide (ind ≤ 8000), !ne, rt] W.heap.size 6 rfl (by decide) (W.alloc (.cells #[.bool (decide (last < no)), .bool (decide (no ≤ 8000)), .bool (decide (0 ≤ ind)), .bool (decide (ind ≤ 8000)), .bool (!ne), .bool rt] 4)) (six_cells _ _ _ _ _ _ W)
  rw [hal] at hall
  have HALL := Lib.hid hall
  clear hall
  go_cut [29] from 8 (fun v wx => v = .bool (!al) ∧ wx.heap[w.heap.size]? = some (.cells #[Value.int IntKind.i64 no, Value.int IntKind.i64 ind, Value.string s] 36 (0, 0)) ∧ Below w.heap.size w wx)
  case first =>
    go_region_held3 (fun w' => w'.cell? ⟨w.heap.size, 0, none⟩ = some (.int .i64 no) ∧ w'.cell? ⟨w.heap.size, 1, none⟩ = some (.int .i64 ind) ∧ w'.cell? ⟨w.heap.size, 2, none⟩ = some (.string s)) (first | (with_reducible exact ⟨x0, x1, x2⟩) | go_keep) (first
      | (go_at_call 18; refine (HCR.out _ HG1.out).mono ?_; rintro e w2 ⟨rfl, hb2⟩; have h2 := (hb2.block w.heap.size (lt_of_heap (w := W1) E0.out)).trans E0.out; have x0 : w2.cell? ⟨w.heap.size, 0, none⟩ = some (.int .i64 no) := cell_of h2 0; have x1 : w2.cell? ⟨w.heap.size, 1, none⟩ = some (.int .i64 ind) := cell_of h2 1; have x2 : w2.cell? ⟨w.heap.size, 2, none⟩ = some (.string s) := cell_of h2 2; have B2 := Lib.hid hb2; have H2 := Lib.hid h2; clear hb2 h2)
      | (go_at_call 38; refine (HALL.out _).mono ?_; rintro e w3 ⟨rfl, rfl⟩))
    go_wp2_with fail
    go_meet
    exact ⟨rfl, alloc_heap_old _ H2.out, (HB0.out.drew.trans (B2.out.mono HB0.out.size)).alloc (Nat.le_trans HB0.out.size B2.out.size) _⟩
  case rest =>
    obtain ⟨rfl, hc, hbc⟩ := hcut
    have hsix : (Ln.six last ⟨no, ind, s.data.toList⟩).all id = al := by
      rw [← hal]
      unfold Ln.six
      simp only
      have : (!ne) = decide (s.data.toList ≠ []) := by
        rw [← hne, ByteArray.toList_eq]
        cases s.data.toList with
        | nil => rfl
        | cons x u => simp
      rw [← HRT.out, this]
    have hR := HR.out
    unfold Ln.may at hR
    rw [hsix] at hR
    clear HALL HG1 E0 HCR hsix
    cases al with
    | false =>
      obtain rfl : R = false := by rw [← hR]; rfl
      go_wp2_with fail
      go_ret
      exact ⟨rfl, hbc⟩
    | true =>
      have hne0 : ne = false := by
        have := hal
        simp only [List.all_cons, List.all_nil, id, Bool.and_eq_true] at this
        simpa using this.2.2.2.2.1
      subst hne0
      rw [Bool.true_and] at hR
      have hsz : 0 < s.size := by
        rw [ByteArray.toList_eq] at hne
        rw [← text_size]
        cases hd : s.data.toList with
        | nil => rw [hd] at hne; simp at hne
        | cons x u => simp
      have c1 : wc.cell? ⟨w.heap.size, 1, none⟩ = some (.int .i64 ind) := cell_of hc 1
      have c2 : wc.cell? ⟨w.heap.size, 2, none⟩ = some (.string s) := cell_of hc 2
      have HC := Lib.hid hc
      have HBC := Lib.hid hbc
      have HRR := Lib.hid hR
      have HAL := Lib.hid hal
      clear hc hbc hR hal
      go_wp2_with fail
      refine (trouble_any s hs wc).mono ?_
      rintro e w4 ⟨rfl, hb4⟩
      have h4 := (hb4.block w.heap.size (lt_of_heap HC.out)).trans HC.out
      have d1 : w4.cell? ⟨w.heap.size, 1, none⟩ = some (.int .i64 ind) := cell_of h4 1
      have d2 : w4.cell? ⟨w.heap.size, 2, none⟩ = some (.string s) := cell_of h4 2
      have b4 : Below w.heap.size w w4 := HBC.out.trans (hb4.mono HBC.out.size)
      have B4 := Lib.hid b4
      have g2 : (w4.alloc (Obj.cells #[] 77)).cell? ⟨w.heap.size, 2, none⟩ = some (.string s) := new_past (lt_of_heap h4) d2
      have g1 : (w4.alloc (Obj.cells #[] 77)).cell? ⟨w.heap.size, 1, none⟩ = some (.int .i64 ind) := new_past (lt_of_heap h4) d1
      have B5 := Lib.hid (b4.alloc b4.size (Obj.cells #[] 77))
      clear c1 c2 h4 hb4 b4 HC HBC HB0
      have ht := fun w => trim_any s hs w
      obtain ⟨t3, ht3⟩ : ∃ t : ByteArray, (⟨(Lib.trimB s.data.toList 32).toArray⟩ : ByteArray) = t := ⟨_, rfl⟩
      rw [ht3] at ht
      obtain ⟨q, hq⟩ : ∃ b, (t3.toList == s.toList) = b := ⟨_, rfl⟩
      have hq2 : decide (Lib.trimB s.data.toList 32 = s.data.toList) = q := by
        rw [← hq, text_eq, ← ht3]
      obtain ⟨z, hz⟩ : ∃ b, (((s[0]'hsz).toNat : Int) != 35) = b := ⟨_, rfl⟩
      have hz2 : decide (s.data.toList.head? ≠ some 35) = z := by
        rw [← hz]
        have h' : 0 < s.data.toList.length := by rw [text_size]; exact hsz
        have hh : s.data.toList.head? = some (s[0]'hsz) := by
          rw [List.head?_eq_getElem?, List.getElem?_eq_getElem h']
          rfl
        rw [hh]
        by_cases hx : (s[0]'hsz) = 35
        · rw [hx]; rfl
        · have : ¬ ((s[0]'hsz).toNat : Int) = 35 := fun e => hx (UInt8.toNat_inj.1 (by show (s[0]'hsz).toNat = 35; omega))
          have h1 : decide (some (s[0]'hsz) ≠ some 35) = true := decide_eq_true (by simpa using hx)
          rw [h1]
          simpa using this
      rw [hq2, hz2] at HRR
      have HT := Lib.hid ht
      clear ht ht3 hq2 hz2
      rcases trouble_ways s with ⟨hv, ht0⟩ | ⟨hv, ht0⟩ | ⟨hv, ht0⟩
      · rw [hv]
        rw [ht0] at HRR
        obtain rfl : (q && z) = R := by rw [← HRR.out]; simp
        cases q with
        | false =>
          go_upto_region 7 with (fail)
          generalize w4.alloc (Obj.cells #[] 77) = W5 at g1 g2 B5 ⊢
          go_big_quiet (first | (go_at_call 39; exact Calls.quiet_of (HT.out _)))
          go_wp2_with fail
          go_ret
          exact ⟨by rfl, Below.drewN' B5.out _⟩
        | true =>
          go_upto_region 7 with (fail)
          generalize w4.alloc (Obj.cells #[] 77) = W5 at g1 g2 B5 ⊢
          go_big_quiet (first | (go_at_call 39; exact Calls.quiet_of (HT.out _)))
          go_wp2_with fail
          go_ret
          exact ⟨by simp [hz], Below.drewN' B5.out _⟩
      · rw [hv]
        rw [ht0] at HRR
        obtain rfl : R = false := by rw [← HRR.out]; simp
        go_upto_region 7 with (fail)
        generalize w4.alloc (Obj.cells #[] 77) = W5 at g1 g2 B5 ⊢
        go_big_quiet (fail)
        go_wp2_with fail
        go_ret
        exact ⟨rfl, Below.drewN' B5.out _⟩
      · rw [hv]
        rw [ht0] at HRR
        by_cases hi : (0 : Int) < ind
        · obtain rfl : (q && z) = R := by rw [← HRR.out]; simp [hi]
          cases q with
          | false =>
            go_upto_region 7 with (fail)
            generalize w4.alloc (Obj.cells #[] 77) = W5 at g1 g2 B5 ⊢
            go_big_quiet (first | (go_at_call 39; exact Calls.quiet_of (HT.out _)))
            go_wp2_with fail
            go_ret
            exact ⟨by rfl, Below.drewN' B5.out _⟩
          | true =>
            go_upto_region 7 with (fail)
            generalize w4.alloc (Obj.cells #[] 77) = W5 at g1 g2 B5 ⊢
            go_big_quiet (first | (go_at_call 39; exact Calls.quiet_of (HT.out _)))
            go_wp2_with fail
            go_ret
            exact ⟨by simp [hz], Below.drewN' B5.out _⟩
        · obtain rfl : R = false := by rw [← HRR.out]; simp [hi]
          go_upto_region 7 with (fail)
          generalize w4.alloc (Obj.cells #[] 77) = W5 at g1 g2 B5 ⊢
          go_big_quiet (fail)
          go_wp2_with fail
          go_ret
          exact ⟨rfl, Below.drewN' B5.out _⟩
end Go.Proofs.YtofikmdfiimbbaaDoor
