/- Two hashers beside each other. -/
import Derived.Test.YtfafidholldjlaaDoorE14
set_option linter.unusedVariables false
set_option linter.unusedSimpArgs false
namespace Go.Proofs.YtfafidholldjlaaDoor
open Go.RowKit
theorem hrow_no_byte (sp : Option Addr) (k cap : Nat) (s : Sha.St) (n : Int) (j : Nat) (x : Int) : (hrow (.slice sp k cap) s n)[j]? ≠ some (.int .u8 x) := by
  match j with
  | 0 => simp [hrow]
  | 1 => simp [hrow]
  | 2 => simp [hrow]
  | 3 => simp [hrow]
  | 4 => simp [hrow]
  | 5 => simp [hrow]
  | 6 => simp [hrow]
  | 7 => simp [hrow]
  | 8 => simp [hrow]
  | 9 => simp [hrow]
  | j + 10 => simp [hrow]
/-- What is written to one hasher changes no other. -/
theorem HasherAt.other {W W' : World} {x y : Nat} {m q : List UInt8} (hx : HasherAt W x m) (hy : HasherAt W y q) (hne : x ≠ y) (hf : Far (· = y) W W') : HasherAt W' x m := by
  obtain ⟨v, r1, sp, cap, rfl, hp⟩ := hx
  obtain ⟨v2, r2, sp2, cap2, rfl, hp2⟩ := hy
  refine ⟨_, hf.heap r1 hne, sp, cap, rfl, fun h0 => ?_⟩
  obtain ⟨g, o, e1, e2, e3, e4, e5⟩ := hp h0
  have hgy : g ≠ y := by
    intro e
    subst e
    obtain ⟨b, hb⟩ : ∃ b, (m.drop (64 * (m.length / 64)))[0]? = some b := ⟨_, List.getElem?_eq_getElem h0⟩
    have h5 := e5 0 (.int .u8 (b.toNat : Int)) (by simp only [byteCells, List.getElem?_map, hb, Option.map_some])
    rw [cell_of r2] at h5
    exact hrow_no_byte _ _ _ _ _ _ _ h5
  exact ⟨g, o, e1, Nat.lt_of_lt_of_le e2 hf.size, e3, e4, fun j u hj => (hf.cell (p := ⟨g, o + j, none⟩) e2 hgy).trans (e5 j u hj)⟩
theorem HasherAt.keep {W W' : World} {h : Nat} {m : List UInt8} (hm : HasherAt W h m) (hb : Below W.heap.size W W') : HasherAt W' h m := hm.far (Far.of_below hb NoneD) (fun _ e => e)
end Go.Proofs.YtfafidholldjlaaDoor
