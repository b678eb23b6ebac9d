/- A bad sign stands nowhere among the digits; the place of any sign. -/
import Derived.Test.YtfafidholldjlaaDoorZQ
import Derived.Lib.OthersKept
set_option linter.unusedVariables false
set_option linter.unusedSimpArgs false
namespace Go.Proofs.YtfafidholldjlaaDoor
open Go.RowKit
theorem digits_low : ∀ pos (h : pos < digitsText.size), (digitsText[pos]'h).toNat < 128 := by
  have h : ∀ p : Fin 16, (digitsText[p.val]'(by have := p.isLt; show p.val < 16; omega)).toNat < 128 := by decide
  intro pos hp
  exact h ⟨pos, hp⟩
set_option maxRecDepth 100000 in
set_option maxHeartbeats 2000000 in
theorem rune_bad (w : World) : Calls Tryd.prog 91 #[.string ⟨#[48, 49, 50, 51, 52, 53, 54, 55, 56, 57, 97, 98, 99, 100, 101, 102]⟩, .int .i32 65533] w fun e w' => e = .returned (.int .i64 (-1)) ∧ Below w.heap.size w w' := by
  have hDs : digitsText.size = 16 := rfl
  have hD : (⟨#[48, 49, 50, 51, 52, 53, 54, 55, 56, 57, 97, 98, 99, 100, 101, 102]⟩ : ByteArray) = digitsText := rfl
  have HL := Lib.hid digits_low
  rw [hD]
  generalize digitsText = D at hDs HL ⊢
  clear hD
  go_enter Tryd.func91, Tryd.ntmps91
  go_wp2_with fail
  go_loopw [5, 6] (fun _ _ w' => ∃ (pos : Nat), w' = w.iter D pos ∧ pos ≤ 16) (fun _ _ w' => D.size - w'.iterPos w.heap.size)
  case atStart => exact ⟨0, rfl, by omega⟩
  case round =>
    obtain ⟨pos, rfl, hb⟩ := hrel
    by_cases hp : pos < D.size
    · have hnx : ∀ ty, (Instr.next (.pointer (some ⟨w.heap.size, 0, none⟩)) true ty).run Tryd.prog (w.iter D pos) = _ := fun ty => run_next_any w D pos ty hp
      have hl := HL.out pos hp
      rw [decode_ascii D pos hp hl] at hnx
      obtain ⟨c, hc⟩ : ∃ c : Nat, (D[pos]'hp).toNat = c := ⟨_, rfl⟩
      rw [hc] at hnx hl
      have hne : ¬ ((c : Int) = 65533) := by omega
      go_wp2_with fail
      go_roundw
      case rel => exact ⟨pos + 1, rfl, by omega⟩
      case measure =>
        simp
        omega
    · have hnx : ∀ ty, (Instr.next (.pointer (some ⟨w.heap.size, 0, none⟩)) true ty).run Tryd.prog (w.iter D pos) = _ := fun ty => run_next_end w D pos ty hp
      go_wp2_with fail
      go_ret
      exact ⟨rfl, (Below.refl _ _).alloc (Nat.le_refl _) _⟩
/-- What a sign is worth. -/
def runeVal (r : Nat) : Int := if r < 128 then valI r else -1
theorem decode_valid (s : ByteArray) (pos : Nat) (hp : pos < s.size) : Utf8.valid ((Utf8.decode s pos).1 : Int) = true := by
  have hb : ∀ k, (s.get! (pos + k)).toNat < 256 := fun k => (s.get! (pos + k)).toNat_lt
  have h0 := hb 0; have h1 := hb 1; have h2 := hb 2; have h3 := hb 3
  simp only [Utf8.decode]
  repeat' split
  all_goals simp_all [Utf8.runeError, Utf8.valid]
  all_goals omega
theorem rune_any (s : ByteArray) (pos : Nat) (hp : pos < s.size) (w : World) : Calls Tryd.prog 91 #[.string ⟨#[48, 49, 50, 51, 52, 53, 54, 55, 56, 57, 97, 98, 99, 100, 101, 102]⟩, .int .i32 ((Utf8.decode s pos).1 : Nat)] w fun e w' => e = .returned (.int .i64 (runeVal (Utf8.decode s pos).1)) ∧ Below w.heap.size w w' := by
  have hv := decode_valid s pos hp
  generalize (Utf8.decode s pos).1 = r at hv ⊢
  unfold runeVal
  by_cases h1 : r < 128
  · rw [if_pos h1]
    refine (rune_low r h1 w).mono ?_
    rintro e w' ⟨rfl, rfl⟩
    exact ⟨rfl, Below.refl _ _⟩
  · rw [if_neg h1]
    by_cases h2 : r = 65533
    · subst h2
      exact rune_bad w
    · refine (rune_high (r : Int) (by omega) hv (by omega) w).mono ?_
      rintro e w' ⟨rfl, n, rfl⟩
      exact ⟨rfl, ⟨rfl, rfl, rfl, Nat.le_refl _, fun _ _ => rfl⟩⟩
end Go.Proofs.YtfafidholldjlaaDoor
