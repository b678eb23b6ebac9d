/- Do all rules hold? -/
import Derived.Test.YtofikmdfiimbbaaDoorGb
set_option linter.unusedVariables false
set_option linter.unusedSimpArgs false
namespace Go.Proofs.YtofikmdfiimbbaaDoor
open Go.RowKit
set_option maxRecDepth 100000 in
set_option maxHeartbeats 2000000 in
theorem all_any (bs : List Bool) (g n : Nat) (hn : bs.length = n) (hn2 : n ≤ 100) (w : World) (hc : ∀ i b, bs[i]? = some b → w.cell? ⟨g, i, none⟩ = some (.bool b)) :
    Calls Tryd.prog 38 #[.slice (some ⟨g, 0, none⟩) n n] w fun e w' => e = .returned (.bool (bs.all id)) ∧ w' = w := by
  obtain ⟨R, hR⟩ : ∃ R, bs.all id = R := ⟨_, rfl⟩
  rw [hR]
  have HR := Lib.hid hR
  have HC := Lib.hid hc
  have HN := Lib.hid hn
  clear hR hc hn
  go_enter Tryd.func38, Tryd.ntmps38
  go_wp2_with fail
  go_loopw [4, 7] (fun _ a wr => ∃ i : Nat, a = .int .i64 (i : Int) ∧ wr = w ∧ i ≤ n ∧ (bs.drop i).all id = R) (fun _ a _ => n - (Lib.intOf a).toNat)
  case atStart => exact ⟨0, rfl, rfl, Nat.zero_le _, by rw [List.drop_zero]; exact HR.out⟩
  case round =>
    obtain ⟨i, rfl, rfl, hin, hal⟩ := hrel
    by_cases hi : i < n
    · have h1 : (i : Int) < (n : Int) := by omega
      obtain ⟨b, hb⟩ : ∃ b, bs[i]? = some b := ⟨_, List.getElem?_eq_getElem (by rw [HN.out]; exact hi)⟩
      have hd : bs.drop i = b :: bs.drop (i + 1) := by
        have hlt : i < bs.length := by rw [HN.out]; exact hi
        rw [List.drop_eq_getElem_cons hlt]
        congr 1
        rw [List.getElem?_eq_getElem hlt] at hb
        exact Option.some.inj hb
      rw [hd, List.all_cons] at hal
      have c0 := HC.out i b hb
      have w1 : IntKind.i64.wrap ((i : Int) + 1) = (i : Int) + 1 := IntWalk.i64_in _ (by omega)
      clear hd hb
      cases b with
      | false =>
        obtain rfl : R = false := by rw [← hal]; rfl
        go_wp2_with fail
        go_ret
        exact ⟨rfl, rfl⟩
      | true =>
        rw [show (id true && (bs.drop (i + 1)).all id) = (bs.drop (i + 1)).all id from rfl] at hal
        go_wp2_with fail
        go_roundw
        case rel => exact ⟨i + 1, by simp, trivial, by omega, hal⟩
        case measure => simp [Lib.intOf]; omega
    · have h1 : ¬ (i : Int) < (n : Int) := by omega
      have hRt : R = true := by
        rw [← hal, List.drop_eq_nil_of_le (by rw [HN.out]; omega)]
        rfl
      subst hRt
      go_wp2_with fail
      go_ret
      exact ⟨rfl, rfl⟩
end Go.Proofs.YtofikmdfiimbbaaDoor
