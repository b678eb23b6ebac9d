/- One sign at a place. -/
import Derived.Test.YtofikmdfiimbbaaDoorL20
import Derived.BigQuiet
import Derived.BigGuard
import Derived.Deep.RegionHeld3
import Derived.Deep.DrawnRows
import Derived.Deep.Cut
import Derived.Deep.CutRange
import Derived.BigRegion
import Derived.Deep.Draws
set_option linter.unusedVariables false
set_option linter.unusedSimpArgs false
namespace Go.Proofs.YtofikmdfiimbbaaDoor
open Go.RowKit
set_option maxRecDepth 100000 in
set_option maxHeartbeats 2000000 in
theorem sign_any (n : Nat) (w : World) : Calls Tryd.prog 61 #[.int .i64 (n : Int)] w fun e w' => e = .returned (.bool (Ln.signB n)) ∧ w' = w := by
  unfold Ln.signB
  rcases (by omega : (n ≤ 1114111 ∧ n < 55296) ∨ (n ≤ 1114111 ∧ ¬ n < 55296 ∧ 57343 < n) ∨ (n ≤ 1114111 ∧ ¬ n < 55296 ∧ ¬ 57343 < n) ∨ ¬ n ≤ 1114111) with ⟨h1, h2⟩ | ⟨h1, h2, h3⟩ | ⟨h1, h2, h3⟩ | h1
  · have i1 : (n : Int) ≤ 1114111 := by omega
    have i2 : (n : Int) < 55296 := by omega
    simp only [h1, h2, decide_true, Bool.true_or, Bool.and_true]
    go_enter Tryd.func61, Tryd.ntmps61
    go_wp2_with fail
    go_ret
    exact ⟨rfl, rfl⟩
  · have i1 : (n : Int) ≤ 1114111 := by omega
    have i2 : ¬ (n : Int) < 55296 := by omega
    have i3 : (57343 : Int) < n := by omega
    simp only [h1, h2, h3, decide_true, decide_false, Bool.false_or, Bool.and_true]
    go_enter Tryd.func61, Tryd.ntmps61
    go_wp2_with fail
    go_ret
    exact ⟨rfl, rfl⟩
  · have i1 : (n : Int) ≤ 1114111 := by omega
    have i2 : ¬ (n : Int) < 55296 := by omega
    have i3 : ¬ (57343 : Int) < n := by omega
    simp only [h1, h2, h3, decide_true, decide_false, Bool.false_or, Bool.and_false]
    go_enter Tryd.func61, Tryd.ntmps61
    go_wp2_with fail
    go_ret
    exact ⟨rfl, rfl⟩
  · have i1 : ¬ (n : Int) ≤ 1114111 := by omega
    simp only [h1, decide_false, Bool.false_and]
    go_enter Tryd.func61, Tryd.ntmps61
    go_wp2_with fail
    go_ret
    exact ⟨rfl, rfl⟩
theorem nat_drop (l : Ln.B) (a k : Nat) : Ln.nat (l.drop a) k = Ln.nat l (a + k) := by
  unfold Ln.nat
  rw [List.getD_eq_getElem?_getD, List.getElem?_drop, ← List.getD_eq_getElem?_getD]
set_option maxRecDepth 100000 in
set_option maxHeartbeats 2000000 in
theorem one_w1 (s : ByteArray) (p : Nat) (hp : p < s.size) (hs : s.size ≤ 100000) (b0 : Nat) (h0 : b0 < 256) (hb : ∀ w, (Instr.index 9 (.string s) (.int .i64 (p : Int))).run Tryd.prog w = .ok (.int .u8 (b0 : Int)) w) (hw : b0 < 192)
    (T : ByteArray) (hT : ∀ w, (Instr.slice 9 (.string s) (some (.int .i64 (p : Int))) (some (.int .i64 ((p : Int) + 1))) none).run Tryd.prog w = .ok (.string T) w) (sg : Bool) (hsg : Ln.signB b0 = sg) (eq : Bool) (heq : decide (Ln.bytesL b0 = T.data.toList) = eq) (w : World) :
    Calls Tryd.prog 45 #[.string s, .int .i64 (p : Int)] w fun e w' => (e = if sg && eq then .returned (.tuple #[.int .i64 (b0 : Int), .int .i64 1]) else .returned (.tuple #[.int .i64 0, .int .i64 0])) ∧ Below w.heap.size w w' := by
  have i1 : ¬ (240 : Int) ≤ b0 := by omega
  have i2 : ¬ (224 : Int) ≤ b0 := by omega
  have i3 : ¬ (192 : Int) ≤ b0 := by omega
  have i4 : ¬ (1 : Int) > (s.size : Int) - (p : Int) := by omega
  have HS := fun w => sign_any b0 w
  rw [hsg] at HS
  obtain ⟨bt, hbt⟩ : ∃ bt : ByteArray, (⟨(Ln.bytesL b0).toArray⟩ : ByteArray) = bt := ⟨_, rfl⟩
  have HB := fun w => bytes_any b0 (by omega) w
  rw [hbt] at HB
  have heq' : (bt.toList == T.toList) = eq := by rw [text_eq, ← hbt]; exact heq
  have hw1 : IntKind.i64.wrap ((p : Int) + 1) = (p : Int) + 1 := IntWalk.i64_in _ (by omega)
  clear heq hbt hsg
  go_enter Tryd.func45, Tryd.ntmps45
  go_wp2_with fail
  refine wp_loop_rounds 1 ?_
  rw [rounds_succ]
  go_wp2_with fail
  cases sg with
  | false =>
    go_quiet ((go_at_call 61; exact Calls.quiet_of_same (HS _)))
    go_wp2_with fail
    go_ret2
    exact ⟨rfl, below_drewN (Below.refl _ _) _⟩
  | true =>
    go_region_held3 (fun w' => True) (exact trivial) (first | (go_at_call 61; refine (HS _).mono ?_; rintro e wz ⟨rfl, rfl⟩) | (go_at_call 62; refine (HB _).mono ?_; rintro e wz ⟨rfl, hbz⟩))
    cases eq with
    | false =>
      go_wp2_with fail
      go_ret2
      exact ⟨rfl, (Below.refl _ _).drew.trans hbz⟩
    | true =>
      go_wp2_with fail
      go_ret2
      exact ⟨rfl, (Below.refl _ _).drew.trans hbz⟩
end Go.Proofs.YtofikmdfiimbbaaDoor
