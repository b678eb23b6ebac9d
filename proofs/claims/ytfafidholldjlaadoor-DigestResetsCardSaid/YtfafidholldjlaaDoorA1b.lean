/- turned at the four lists of places that the rounds use. -/
import Derived.Test.YtfafidholldjlaaDoorA1
set_option linter.unusedVariables false
set_option linter.unusedSimpArgs false
namespace Go.Proofs.YtfafidholldjlaaDoor
open Go.RowKit
theorem turned_e (x : Nat) (p c : Nat) (w : World) (hx : x < 4294967296) (c0 : w.cell? ⟨p, 0, none⟩ = some (.int .i64 6)) (c1 : w.cell? ⟨p, 1, none⟩ = some (.int .i64 11)) (c2 : w.cell? ⟨p, 2, none⟩ = some (.int .i64 25)) :
    Calls Tryd.prog 83 #[.int .u32 (x : Int), .slice (some ⟨p, 0, none⟩) 3 c] w fun e w' => e = .returned (.int .u32 (Sha.turned x [6, 11, 25] : Nat)) ∧ w = w' := by
  refine turned_any x [6, 11, 25] ⟨p, 0, none⟩ c w hx (by decide) (by decide) ?_ rfl
  intro i h
  match i, h with
    | 0, _ => exact (by simpa using c0)
    | 1, _ => exact (by simpa using c1)
    | 2, _ => exact (by simpa using c2)
    | n + 3, h => exact absurd h (by simp)
theorem turned_a (x : Nat) (p c : Nat) (w : World) (hx : x < 4294967296) (c0 : w.cell? ⟨p, 0, none⟩ = some (.int .i64 2)) (c1 : w.cell? ⟨p, 1, none⟩ = some (.int .i64 13)) (c2 : w.cell? ⟨p, 2, none⟩ = some (.int .i64 22)) :
    Calls Tryd.prog 83 #[.int .u32 (x : Int), .slice (some ⟨p, 0, none⟩) 3 c] w fun e w' => e = .returned (.int .u32 (Sha.turned x [2, 13, 22] : Nat)) ∧ w = w' := by
  refine turned_any x [2, 13, 22] ⟨p, 0, none⟩ c w hx (by decide) (by decide) ?_ rfl
  intro i h
  match i, h with
    | 0, _ => exact (by simpa using c0)
    | 1, _ => exact (by simpa using c1)
    | 2, _ => exact (by simpa using c2)
    | n + 3, h => exact absurd h (by simp)
theorem turned_s0 (x : Nat) (p c : Nat) (w : World) (hx : x < 4294967296) (c0 : w.cell? ⟨p, 0, none⟩ = some (.int .i64 7)) (c1 : w.cell? ⟨p, 1, none⟩ = some (.int .i64 18)) :
    Calls Tryd.prog 83 #[.int .u32 (x : Int), .slice (some ⟨p, 0, none⟩) 2 c] w fun e w' => e = .returned (.int .u32 (Sha.turned x [7, 18] : Nat)) ∧ w = w' := by
  refine turned_any x [7, 18] ⟨p, 0, none⟩ c w hx (by decide) (by decide) ?_ rfl
  intro i h
  match i, h with
    | 0, _ => exact (by simpa using c0)
    | 1, _ => exact (by simpa using c1)
    | n + 2, h => exact absurd h (by simp)
theorem turned_s1 (x : Nat) (p c : Nat) (w : World) (hx : x < 4294967296) (c0 : w.cell? ⟨p, 0, none⟩ = some (.int .i64 17)) (c1 : w.cell? ⟨p, 1, none⟩ = some (.int .i64 19)) :
    Calls Tryd.prog 83 #[.int .u32 (x : Int), .slice (some ⟨p, 0, none⟩) 2 c] w fun e w' => e = .returned (.int .u32 (Sha.turned x [17, 19] : Nat)) ∧ w = w' := by
  refine turned_any x [17, 19] ⟨p, 0, none⟩ c w hx (by decide) (by decide) ?_ rfl
  intro i h
  match i, h with
    | 0, _ => exact (by simpa using c0)
    | 1, _ => exact (by simpa using c1)
    | n + 2, h => exact absurd h (by simp)
end Go.Proofs.YtfafidholldjlaaDoor
