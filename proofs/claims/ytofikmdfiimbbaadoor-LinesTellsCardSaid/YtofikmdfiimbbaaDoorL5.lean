/- What is wrong with a row. -/
import Derived.Test.YtofikmdfiimbbaaDoorL2
import Derived.Test.YtofikmdfiimbbaaDoorL3
set_option linter.unusedVariables false
set_option linter.unusedSimpArgs false
namespace Go.Proofs.YtofikmdfiimbbaaDoor
open Go.RowKit
/-- A trouble as a value: none, a sign, a mark. -/
def troubleV (s : ByteArray) : Value := if Ln.plainB s.data.toList then (if Ln.markB s.data.toList then .iface 77 (.agg #[]) else .nilIface) else .iface 76 (.agg #[])
set_option maxRecDepth 100000 in
set_option maxHeartbeats 2000000 in
theorem trouble_any (s : ByteArray) (hs : s.size ≤ 1000000) (w : World) : Calls Tryd.prog 20 #[.agg #[.string s]] w fun e w' => e = .returned (troubleV s) ∧ Below w.heap.size w w' := by
  have hp := fun w => plain_any s hs w
  have hm := fun w => mark_any s w
  unfold troubleV
  generalize Ln.plainB s.data.toList = p at hp ⊢
  generalize Ln.markB s.data.toList = m at hm ⊢
  have c0 : ∀ w : World, (w.alloc (Obj.cells #[Value.string s] 44)).cell? ⟨w.heap.size, 0, none⟩ = some (.string s) := fun w => cell_of (alloc_heap w _) 0
  cases p with
  | false =>
    go_enter Tryd.func20, Tryd.ntmps20
    go_wp2_with fail
    refine (hp _).mono ?_
    rintro e w1 ⟨rfl, hb1⟩
    go_wp2_with fail
    go_ret
    exact ⟨rfl, ((Below.refl _ _).alloc (Nat.le_refl _) _).trans (hb1.mono (by simp))⟩
  | true =>
    go_enter Tryd.func20, Tryd.ntmps20
    go_wp2_with fail
    refine (hp _).mono ?_
    rintro e w1 ⟨rfl, hb1⟩
    have hb2 : Below w.heap.size w w1 := ((Below.refl _ _).alloc (Nat.le_refl _) _).trans (hb1.mono (by simp))
    have c1 : w1.cell? ⟨w.heap.size, 0, none⟩ = some (.string s) := cell_of ((hb1.block _ (by simp)).trans (alloc_heap w _)) 0
    clear hb1
    cases m with
    | true =>
      go_wp2_with fail
      refine (hm _).mono ?_
      rintro e w2 ⟨rfl, hb3⟩
      go_wp2_with fail
      go_ret
      exact ⟨rfl, hb2.trans (hb3.mono hb2.size)⟩
    | false =>
      go_wp2_with fail
      refine (hm _).mono ?_
      rintro e w2 ⟨rfl, hb3⟩
      go_wp2_with fail
      go_ret
      exact ⟨rfl, hb2.trans (hb3.mono hb2.size)⟩
end Go.Proofs.YtofikmdfiimbbaaDoor
