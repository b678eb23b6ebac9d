/- The document's answer for the rounds: words, First, Ints. -/
import Derived.Test.YtfafidholldjlaaDoorR1
import Derived.Test.YtfafidholldjlaaDoorBase
import Derived.Test.YtfafidholldjlaaDoorFar
import Derived.OwnWalkIn
import Derived.TacticsInMore
import Derived.BigRegion
set_option linter.unusedVariables false
set_option linter.unusedSimpArgs false
namespace Go.Proofs.YtfafidholldjlaaDoor
open Go.RowKit
def inWord (x : Int) : Prop := 0 ≤ x ∧ x ≤ 4294967295
theorem cell_list {w : World} {b : Nat} {T : TypeId} {l : List Int} (h : w.heap[b]? = some (.cells (l.map (Value.int .i64)).toArray T (0, 0))) (k : Nat) (hk : k < l.length) : w.cell? ⟨b, k, none⟩ = some (.int .i64 (l.getD k 0)) := by
  rw [cell_of h k]
  simp [hk]
set_option maxRecDepth 100000 in
theorem ref_words (s0 s1 s2 s3 s4 s5 s6 s7 : Int) (R : Bool) (hR : R = true ↔ ∀ j, j < 8 → inWord (([s0, s1, s2, s3, s4, s5, s6, s7] : List Int).getD j 0)) (w : World) :
    Calls Tryd.prog 68 #[.agg #[.int .i64 s0, .int .i64 s1, .int .i64 s2, .int .i64 s3, .int .i64 s4, .int .i64 s5, .int .i64 s6, .int .i64 s7]] w fun e w' => e = .returned (.bool R) ∧ w' = w.alloc (.cells #[.int .i64 s0, .int .i64 s1, .int .i64 s2, .int .i64 s3, .int .i64 s4, .int .i64 s5, .int .i64 s6, .int .i64 s7] 23) := by
  have hb : (w.alloc (.cells #[.int .i64 s0, .int .i64 s1, .int .i64 s2, .int .i64 s3, .int .i64 s4, .int .i64 s5, .int .i64 s6, .int .i64 s7] 23)).heap[w.heap.size]? = some (.cells (([s0, s1, s2, s3, s4, s5, s6, s7] : List Int).map (Value.int .i64)).toArray 23 (0, 0)) := alloc_heap _ _
  have hl : ([s0, s1, s2, s3, s4, s5, s6, s7] : List Int).length = 8 := rfl
  generalize hL : ([s0, s1, s2, s3, s4, s5, s6, s7] : List Int) = L at hR hb hl
  have Hb := Lib.hid hb
  have HR := Lib.hid hR
  have Hl := Lib.hid hl
  clear hb hR hl hL
  go_enter Tryd.func68, Tryd.ntmps68
  go_wp2_with fail
  generalize hWe : w.alloc (.cells #[.int .i64 s0, .int .i64 s1, .int .i64 s2, .int .i64 s3, .int .i64 s4, .int .i64 s5, .int .i64 s6, .int .i64 s7] 23) = W at Hb ⊢
  have HWe := Lib.hid hWe
  clear hWe
  go_loop [3] (fun i => ∃ k : Nat, k ≤ 8 ∧ i = .int .i64 k ∧ ∀ j, j < k → inWord (L.getD j 0)) (fun i => 8 - (intOf i).toNat)
  case atStart => exact ⟨0, by omega, rfl, fun j h => absurd h (by omega)⟩
  case round =>
    obtain ⟨k, hk, rfl, hg⟩ := hrel
    have Hg := Lib.hid hg
    clear hg
    by_cases hlt : k < 8
    · have hc := cell_list Hb.out k (by rw [Hl.out]; exact hlt)
      have i0 : (0 : Int) ≤ (k : Int) := by omega
      have i1 : (k : Int) < 8 := by omega
      obtain ⟨x, hx⟩ : ∃ x, L.getD k 0 = x := ⟨_, rfl⟩
      rw [hx] at hc
      have Hx := Lib.hid hx
      clear hx
      by_cases c0 : x < 0
      · obtain rfl : R = false := by
          rw [Bool.eq_false_iff]; intro e
          have := (HR.out.1 e k hlt).1
          rw [Hx.out] at this; omega
        go_wp2_with fail
        go_ret
        exact ⟨rfl, HWe.out.symm⟩
      · by_cases c1 : 4294967295 < x
        · obtain rfl : R = false := by
            rw [Bool.eq_false_iff]; intro e
            have := (HR.out.1 e k hlt).2
            rw [Hx.out] at this; omega
          go_wp2_with fail
          go_ret
          exact ⟨rfl, HWe.out.symm⟩
        · go_wp2_with fail
          go_round
          case rel =>
            refine ⟨k + 1, by omega, by go_num, fun j h => ?_⟩
            by_cases e : j = k
            · subst e; rw [Hx.out]; exact ⟨by omega, by omega⟩
            · exact Hg.out j (by omega)
          case measure => simp [intOf]; omega
    · obtain rfl : k = 8 := by omega
      obtain rfl : R = true := HR.out.2 Hg.out
      go_wp2_with fail
      go_ret
      exact ⟨rfl, HWe.out.symm⟩
set_option maxRecDepth 100000 in
theorem ref_first (w : World) : Calls Tryd.prog 34 #[] w fun e w' => e = .returned (.agg #[.int .i64 1779033703, .int .i64 3144134277, .int .i64 1013904242, .int .i64 2773480762, .int .i64 1359893119, .int .i64 2600822924, .int .i64 528734635, .int .i64 1541459225]) ∧ Below w.heap.size w w' := by
  go_enter Tryd.func34, Tryd.ntmps34
  go_wp2_with fail
  exact bodyPost_ret (v := _) (by simp [results, Tryd.results34, go_sem]) rfl ⟨rfl, (Below.refl _ _).alloc (Nat.le_refl _) _⟩
/-- Two lists of the same numbers are the same. -/
theorem ref_ints (ga gb ca cb n : Nat) (f : Nat → Int) (w : World) (ha : ∀ j, j < n → w.cell? ⟨ga, j, none⟩ = some (.int .i64 (f j))) (hb : ∀ j, j < n → w.cell? ⟨gb, j, none⟩ = some (.int .i64 (f j))) (hn : n ≤ 1000) :
    Calls Tryd.prog 35 #[.slice (some ⟨ga, 0, none⟩) n ca, .slice (some ⟨gb, 0, none⟩) n cb] w fun e w' => e = .returned (.bool true) ∧ ∃ q, w' = w.drewN q := by
  have Ha := Lib.hid ha
  have Hb := Lib.hid hb
  clear ha hb
  go_enter Tryd.func35, Tryd.ntmps35
  go_wp2_with fail
  go_loopw [5] (fun i wr => ∃ t : Nat, t ≤ n ∧ i = .int .i64 t ∧ ∃ q, wr = w.drewN q) (fun i _ => n - (intOf i).toNat)
  case atStart => exact ⟨0, by omega, rfl, 0, rfl⟩
  case round =>
    obtain ⟨t, ht, rfl, q, rfl⟩ := hrel
    by_cases hlt : t < n
    · have c0 : w.cell? ⟨ga, t, none⟩ = some (.int .i64 (f t)) := Ha.out t hlt
      have c1 : w.cell? ⟨gb, t, none⟩ = some (.int .i64 (f t)) := Hb.out t hlt
      have i0 : (0 : Int) ≤ (t : Int) := by omega
      have i1 : (t : Int) < n := by omega
      generalize f t = x at c0 c1
      have hb0 : (x != x) = false := by simp
      go_wp2_with fail
      go_quiet (fail)
      go_wp2_with fail
      go_roundw
      case rel => exact ⟨t + 1, by omega, by go_num, _, rfl⟩
      case measure => simp [intOf]; omega
    · obtain rfl : t = n := by omega
      go_wp2_with fail
      go_ret
      exact ⟨rfl, _, rfl⟩
theorem ref_ints_nil (w : World) : Calls Tryd.prog 35 #[.slice none 0 0, .slice none 0 0] w fun e w' => e = .returned (.bool true) ∧ w = w' := by
  go_enter Tryd.func35, Tryd.ntmps35
  go_wp2_with fail
  refine wp_loop_rounds 1 ?_
  rw [rounds_succ]
  go_wp2_with fail
  go_ret
  exact ⟨rfl, rfl⟩
end Go.Proofs.YtfafidholldjlaaDoor
