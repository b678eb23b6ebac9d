/- One sign of two to four bytes at a place. -/
import Derived.Test.YtofikmdfiimbbaaDoorL21
set_option linter.unusedVariables false
set_option linter.unusedSimpArgs false
namespace Go.Proofs.YtofikmdfiimbbaaDoor
open Go.RowKit
set_option maxRecDepth 100000 in
set_option maxHeartbeats 2000000 in
theorem short_w2 (s : ByteArray) (p : Nat) (hp : p < s.size) (hs : s.size ≤ 100000) (b0 : Nat) (hb0 : ∀ w, (Instr.index 9 (.string s) (.int .i64 (p : Int))).run Tryd.prog w = .ok (.int .u8 (b0 : Int)) w) (c0 : b0 < 256) (h0 : 192 ≤ b0) (h0' : b0 < 224) (hl : s.size < p + 2) (w : World) :
    Calls Tryd.prog 45 #[.string s, .int .i64 (p : Int)] w fun e w' => e = .returned (.tuple #[.int .i64 0, .int .i64 0]) ∧ Below w.heap.size w w' := by
  have i240 : ¬ (240 : Int) ≤ b0 := by omega
  have i224 : ¬ (224 : Int) ≤ b0 := by omega
  have i192 : (192 : Int) ≤ b0 := by omega
  have i4 : (2 : Int) > (s.size : Int) - (p : Int) := by omega
  go_enter Tryd.func45, Tryd.ntmps45
  go_wp2_with fail
  go_ret2
  exact ⟨rfl, Below.refl _ _⟩
set_option maxRecDepth 100000 in
set_option maxHeartbeats 2000000 in
theorem one_w2 (s : ByteArray) (p : Nat) (hs : s.size ≤ 100000) (b0 b1 : Nat) (hb0 : ∀ w, (Instr.index 9 (.string s) (.int .i64 ((p : Int)))).run Tryd.prog w = .ok (.int .u8 (b0 : Int)) w) (hb1 : ∀ w, (Instr.index 9 (.string s) (.int .i64 ((p : Int) + 1))).run Tryd.prog w = .ok (.int .u8 (b1 : Int)) w) (c0 : b0 < 256) (c1 : b1 < 256) (h0 : 192 ≤ b0) (h0' : b0 < 224) (hl : p + 2 ≤ s.size)
    (T : ByteArray) (hT : ∀ w, (Instr.slice 9 (.string s) (some (.int .i64 (p : Int))) (some (.int .i64 ((p : Int) + 2))) none).run Tryd.prog w = .ok (.string T) w)
    (v : Nat) (hv : (v : Int) = (64 * ((b0 : Int) - 192) + (b1 : Int) % 64)) (sg : Bool) (hsg : Ln.signB v = sg) (eq : Bool) (heq : decide (Ln.bytesL v = T.data.toList) = eq) (w : World) :
    Calls Tryd.prog 45 #[.string s, .int .i64 (p : Int)] w fun e w' => (e = if sg && eq then .returned (.tuple #[.int .i64 (v : Int), .int .i64 2]) else .returned (.tuple #[.int .i64 0, .int .i64 0])) ∧ Below w.heap.size w w' := by
  have i240 : ¬ (240 : Int) ≤ b0 := by omega
  have i224 : ¬ (224 : Int) ≤ b0 := by omega
  have i192 : (192 : Int) ≤ b0 := by omega
  have i4 : ¬ (2 : Int) > (s.size : Int) - (p : Int) := by omega
  have HS := fun w => sign_any v w
  rw [hsg] at HS
  obtain ⟨bt, hbt⟩ : ∃ bt : ByteArray, (⟨(Ln.bytesL v).toArray⟩ : ByteArray) = bt := ⟨_, rfl⟩
  have HB := fun (hz : sg = true) w => bytes_any v (by rw [hz] at hsg; unfold Ln.signB at hsg; simp only [Bool.and_eq_true, decide_eq_true_eq] at hsg; exact hsg.1) w
  rw [hbt] at HB
  have heq' : (bt.toList == T.toList) = eq := by rw [text_eq, ← hbt]; exact heq
  have hw1 : IntKind.i64.wrap ((p : Int) + 2) = (p : Int) + 2 := IntWalk.i64_in _ (by omega)
  clear heq hbt hsg
  rw [hv] at HS HB ⊢
  clear hv
  have HS := Lib.hid HS
  have HB := Lib.hid HB
  go_enter Tryd.func45, Tryd.ntmps45
  go_wp2_with fail
  refine wp_loop_rounds 2 ?_
  rw [rounds_succ]
  go_wp2_with fail
  rw [rounds_succ]
  go_wp2_with fail
  cases sg with
  | false =>
    go_quiet ((go_at_call 61; exact Calls.quiet_of_same (HS.out _)))
    go_wp2_with fail
    go_ret2
    exact ⟨rfl, below_drewN (Below.refl _ _) _⟩
  | true =>
    go_region_held3 (fun w' => True) (exact trivial) (first | (go_at_call 61; refine (HS.out _).mono ?_; rintro e wz ⟨rfl, rfl⟩) | (go_at_call 62; refine (HB.out trivial _).mono ?_; rintro e wz ⟨rfl, hbz⟩))
    cases eq with
    | false =>
      go_wp2_with fail
      go_ret2
      exact ⟨rfl, (Below.refl _ _).drew.trans hbz⟩
    | true =>
      go_wp2_with fail
      go_ret2
      exact ⟨rfl, (Below.refl _ _).drew.trans hbz⟩
set_option maxRecDepth 100000 in
set_option maxHeartbeats 2000000 in
theorem short_w3 (s : ByteArray) (p : Nat) (hp : p < s.size) (hs : s.size ≤ 100000) (b0 : Nat) (hb0 : ∀ w, (Instr.index 9 (.string s) (.int .i64 (p : Int))).run Tryd.prog w = .ok (.int .u8 (b0 : Int)) w) (c0 : b0 < 256) (h0 : 224 ≤ b0) (h0' : b0 < 240) (hl : s.size < p + 3) (w : World) :
    Calls Tryd.prog 45 #[.string s, .int .i64 (p : Int)] w fun e w' => e = .returned (.tuple #[.int .i64 0, .int .i64 0]) ∧ Below w.heap.size w w' := by
  have i240 : ¬ (240 : Int) ≤ b0 := by omega
  have i224 : (224 : Int) ≤ b0 := by omega
  have i192 : (192 : Int) ≤ b0 := by omega
  have i4 : (3 : Int) > (s.size : Int) - (p : Int) := by omega
  go_enter Tryd.func45, Tryd.ntmps45
  go_wp2_with fail
  go_ret2
  exact ⟨rfl, Below.refl _ _⟩
set_option maxRecDepth 100000 in
set_option maxHeartbeats 2000000 in
theorem one_w3 (s : ByteArray) (p : Nat) (hs : s.size ≤ 100000) (b0 b1 b2 : Nat) (hb0 : ∀ w, (Instr.index 9 (.string s) (.int .i64 ((p : Int)))).run Tryd.prog w = .ok (.int .u8 (b0 : Int)) w) (hb1 : ∀ w, (Instr.index 9 (.string s) (.int .i64 ((p : Int) + 1))).run Tryd.prog w = .ok (.int .u8 (b1 : Int)) w) (hb2 : ∀ w, (Instr.index 9 (.string s) (.int .i64 ((p : Int) + 2))).run Tryd.prog w = .ok (.int .u8 (b2 : Int)) w) (c0 : b0 < 256) (c1 : b1 < 256) (c2 : b2 < 256) (h0 : 224 ≤ b0) (h0' : b0 < 240) (hl : p + 3 ≤ s.size)
    (T : ByteArray) (hT : ∀ w, (Instr.slice 9 (.string s) (some (.int .i64 (p : Int))) (some (.int .i64 ((p : Int) + 3))) none).run Tryd.prog w = .ok (.string T) w)
    (v : Nat) (hv : (v : Int) = (64 * (64 * ((b0 : Int) - 224) + (b1 : Int) % 64) + (b2 : Int) % 64)) (sg : Bool) (hsg : Ln.signB v = sg) (eq : Bool) (heq : decide (Ln.bytesL v = T.data.toList) = eq) (w : World) :
    Calls Tryd.prog 45 #[.string s, .int .i64 (p : Int)] w fun e w' => (e = if sg && eq then .returned (.tuple #[.int .i64 (v : Int), .int .i64 3]) else .returned (.tuple #[.int .i64 0, .int .i64 0])) ∧ Below w.heap.size w w' := by
  have i240 : ¬ (240 : Int) ≤ b0 := by omega
  have i224 : (224 : Int) ≤ b0 := by omega
  have i192 : (192 : Int) ≤ b0 := by omega
  have i4 : ¬ (3 : Int) > (s.size : Int) - (p : Int) := by omega
  have HS := fun w => sign_any v w
  rw [hsg] at HS
  obtain ⟨bt, hbt⟩ : ∃ bt : ByteArray, (⟨(Ln.bytesL v).toArray⟩ : ByteArray) = bt := ⟨_, rfl⟩
  have HB := fun (hz : sg = true) w => bytes_any v (by rw [hz] at hsg; unfold Ln.signB at hsg; simp only [Bool.and_eq_true, decide_eq_true_eq] at hsg; exact hsg.1) w
  rw [hbt] at HB
  have heq' : (bt.toList == T.toList) = eq := by rw [text_eq, ← hbt]; exact heq
  have hw1 : IntKind.i64.wrap ((p : Int) + 3) = (p : Int) + 3 := IntWalk.i64_in _ (by omega)
  clear heq hbt hsg
  rw [hv] at HS HB ⊢
  clear hv
  have HS := Lib.hid HS
  have HB := Lib.hid HB
  go_enter Tryd.func45, Tryd.ntmps45
  go_wp2_with fail
  refine wp_loop_rounds 3 ?_
  rw [rounds_succ]
  go_wp2_with fail
  rw [rounds_succ]
  go_wp2_with fail
  rw [rounds_succ]
  go_wp2_with fail
  cases sg with
  | false =>
    go_quiet ((go_at_call 61; exact Calls.quiet_of_same (HS.out _)))
    go_wp2_with fail
    go_ret2
    exact ⟨rfl, below_drewN (Below.refl _ _) _⟩
  | true =>
    go_region_held3 (fun w' => True) (exact trivial) (first | (go_at_call 61; refine (HS.out _).mono ?_; rintro e wz ⟨rfl, rfl⟩) | (go_at_call 62; refine (HB.out trivial _).mono ?_; rintro e wz ⟨rfl, hbz⟩))
    cases eq with
    | false =>
      go_wp2_with fail
      go_ret2
      exact ⟨rfl, (Below.refl _ _).drew.trans hbz⟩
    | true =>
      go_wp2_with fail
      go_ret2
      exact ⟨rfl, (Below.refl _ _).drew.trans hbz⟩
set_option maxRecDepth 100000 in
set_option maxHeartbeats 2000000 in
theorem short_w4 (s : ByteArray) (p : Nat) (hp : p < s.size) (hs : s.size ≤ 100000) (b0 : Nat) (hb0 : ∀ w, (Instr.index 9 (.string s) (.int .i64 (p : Int))).run Tryd.prog w = .ok (.int .u8 (b0 : Int)) w) (c0 : b0 < 256) (h0 : 240 ≤ b0) (h0' : b0 < 256) (hl : s.size < p + 4) (w : World) :
    Calls Tryd.prog 45 #[.string s, .int .i64 (p : Int)] w fun e w' => e = .returned (.tuple #[.int .i64 0, .int .i64 0]) ∧ Below w.heap.size w w' := by
  have i240 : (240 : Int) ≤ b0 := by omega
  have i224 : (224 : Int) ≤ b0 := by omega
  have i192 : (192 : Int) ≤ b0 := by omega
  have i4 : (4 : Int) > (s.size : Int) - (p : Int) := by omega
  go_enter Tryd.func45, Tryd.ntmps45
  go_wp2_with fail
  go_ret2
  exact ⟨rfl, Below.refl _ _⟩
set_option maxRecDepth 100000 in
set_option maxHeartbeats 2000000 in
theorem one_w4 (s : ByteArray) (p : Nat) (hs : s.size ≤ 100000) (b0 b1 b2 b3 : Nat) (hb0 : ∀ w, (Instr.index 9 (.string s) (.int .i64 ((p : Int)))).run Tryd.prog w = .ok (.int .u8 (b0 : Int)) w) (hb1 : ∀ w, (Instr.index 9 (.string s) (.int .i64 ((p : Int) + 1))).run Tryd.prog w = .ok (.int .u8 (b1 : Int)) w) (hb2 : ∀ w, (Instr.index 9 (.string s) (.int .i64 ((p : Int) + 2))).run Tryd.prog w = .ok (.int .u8 (b2 : Int)) w) (hb3 : ∀ w, (Instr.index 9 (.string s) (.int .i64 ((p : Int) + 3))).run Tryd.prog w = .ok (.int .u8 (b3 : Int)) w) (c0 : b0 < 256) (c1 : b1 < 256) (c2 : b2 < 256) (c3 : b3 < 256) (h0 : 240 ≤ b0) (h0' : b0 < 256) (hl : p + 4 ≤ s.size)
    (T : ByteArray) (hT : ∀ w, (Instr.slice 9 (.string s) (some (.int .i64 (p : Int))) (some (.int .i64 ((p : Int) + 4))) none).run Tryd.prog w = .ok (.string T) w)
    (v : Nat) (hv : (v : Int) = (64 * (64 * (64 * ((b0 : Int) - 240) + (b1 : Int) % 64) + (b2 : Int) % 64) + (b3 : Int) % 64)) (sg : Bool) (hsg : Ln.signB v = sg) (eq : Bool) (heq : decide (Ln.bytesL v = T.data.toList) = eq) (w : World) :
    Calls Tryd.prog 45 #[.string s, .int .i64 (p : Int)] w fun e w' => (e = if sg && eq then .returned (.tuple #[.int .i64 (v : Int), .int .i64 4]) else .returned (.tuple #[.int .i64 0, .int .i64 0])) ∧ Below w.heap.size w w' := by
  have i240 : (240 : Int) ≤ b0 := by omega
  have i224 : (224 : Int) ≤ b0 := by omega
  have i192 : (192 : Int) ≤ b0 := by omega
  have i4 : ¬ (4 : Int) > (s.size : Int) - (p : Int) := by omega
  have HS := fun w => sign_any v w
  rw [hsg] at HS
  obtain ⟨bt, hbt⟩ : ∃ bt : ByteArray, (⟨(Ln.bytesL v).toArray⟩ : ByteArray) = bt := ⟨_, rfl⟩
  have HB := fun (hz : sg = true) w => bytes_any v (by rw [hz] at hsg; unfold Ln.signB at hsg; simp only [Bool.and_eq_true, decide_eq_true_eq] at hsg; exact hsg.1) w
  rw [hbt] at HB
  have heq' : (bt.toList == T.toList) = eq := by rw [text_eq, ← hbt]; exact heq
  have hw1 : IntKind.i64.wrap ((p : Int) + 4) = (p : Int) + 4 := IntWalk.i64_in _ (by omega)
  clear heq hbt hsg
  rw [hv] at HS HB ⊢
  clear hv
  have HS := Lib.hid HS
  have HB := Lib.hid HB
  go_enter Tryd.func45, Tryd.ntmps45
  go_wp2_with fail
  refine wp_loop_rounds 4 ?_
  rw [rounds_succ]
  go_wp2_with fail
  rw [rounds_succ]
  go_wp2_with fail
  rw [rounds_succ]
  go_wp2_with fail
  rw [rounds_succ]
  go_wp2_with fail
  cases sg with
  | false =>
    go_quiet ((go_at_call 61; exact Calls.quiet_of_same (HS.out _)))
    go_wp2_with fail
    go_ret2
    exact ⟨rfl, below_drewN (Below.refl _ _) _⟩
  | true =>
    go_region_held3 (fun w' => True) (exact trivial) (first | (go_at_call 61; refine (HS.out _).mono ?_; rintro e wz ⟨rfl, rfl⟩) | (go_at_call 62; refine (HB.out trivial _).mono ?_; rintro e wz ⟨rfl, hbz⟩))
    cases eq with
    | false =>
      go_wp2_with fail
      go_ret2
      exact ⟨rfl, (Below.refl _ _).drew.trans hbz⟩
    | true =>
      go_wp2_with fail
      go_ret2
      exact ⟨rfl, (Below.refl _ _).drew.trans hbz⟩
end Go.Proofs.YtofikmdfiimbbaaDoor
