/- The first bytes; what is known. -/
import Derived.Test.YtofikmdfiimbbaaDoorL12
import Derived.Test.YtofikmdfiimbbaaDoorPe
set_option linter.unusedVariables false
set_option linter.unusedSimpArgs false
namespace Go.Proofs.YtofikmdfiimbbaaDoor
open Go.RowKit
/-- Lines that a call has made can be read. -/
theorem lines_LA {base : Nat} {v : Value} {ls : List Ln.Line} {W : World} (h : Lines base v ls W) : ∃ at0 g cap, v = .slice at0 ls.length cap ∧ LA W at0 g 0 ls := by
  unfold Lines at h
  rcases h.2 with ⟨rfl, h0⟩ | ⟨g, cap, cur, rfl, hb, hg, h1, h2, h3, h4⟩
  · refine ⟨none, 0, 0, by rw [h0], fun hne => ?_⟩
    exact absurd (List.eq_nil_of_length_eq_zero h0) hne
  · refine ⟨some ⟨g, 0, none⟩, g, cap, rfl, fun _ => ⟨rfl, lt_of_heap hg, fun i x hx => ?_⟩⟩
    have hc : ∀ k u, (lineCells ls)[k]? = some u → W.cell? ⟨g, k, none⟩ = some u := by
      intro k u hk
      rw [cell_of hg k, ← Array.getElem?_toList]
      have hlt : k < ls.length * 3 := by
        by_cases h' : k < (lineCells ls).length
        · rw [h.1] at h'; exact h'
        · rw [List.getElem?_eq_none (by omega)] at hk; simp at hk
      rw [← h4, List.getElem?_take_of_lt hlt] at hk
      exact hk
    have key : ∀ (ls : List Ln.Line) (i : Nat) (x : Ln.Line), ls[i]? = some x → (lineCells ls)[i * 3]? = some (.int .i64 x.no) ∧ (lineCells ls)[i * 3 + 1]? = some (.int .i64 x.ind) ∧ (lineCells ls)[i * 3 + 2]? = some (.string ⟨x.s.toArray⟩) := by
      intro ls
      induction ls with
      | nil => intro i x hx; simp at hx
      | cons y ys ih =>
        intro i x hx
        cases i with
        | zero =>
          simp only [List.getElem?_cons_zero, Option.some.injEq] at hx
          subst hx
          exact ⟨rfl, rfl, rfl⟩
        | succ i =>
          simp only [List.getElem?_cons_succ] at hx
          obtain ⟨a, b, c⟩ := ih i x hx
          have e : lineCells (y :: ys) = .int .i64 y.no :: .int .i64 y.ind :: .string ⟨y.s.toArray⟩ :: lineCells ys := rfl
          rw [e, show (i + 1) * 3 = i * 3 + 3 by omega]
          exact ⟨a, b, c⟩
    obtain ⟨a, b, c⟩ := key ls i x hx
    rw [Nat.zero_add]
    exact ⟨hc _ _ a, hc _ _ b, hc _ _ c⟩
def cutB (s : ByteArray) : ByteArray := s.extract 0 (min s.size 8001)
theorem cutB_size (s : ByteArray) : (cutB s).size ≤ 8001 := by
  unfold cutB
  rw [ByteArray.size_extract]
  omega
set_option maxRecDepth 100000 in
theorem cut_any (s : ByteArray) (hs : s.size ≤ 9223372036854775807) (w : World) : Calls Tryd.prog 10 #[.string s] w fun e w' => e = .returned (.string (cutB s)) ∧ w' = w := by
  have hmin : min (s.size : Int) 8001 = ((min s.size 8001 : Nat) : Int) := by omega
  unfold cutB
  have h0 : (0 : Int) ≤ ((min s.size 8001 : Nat) : Int) := by omega
  have h1 : ((min s.size 8001 : Nat) : Int) ≤ (s.size : Int) := by omega
  go_enter Tryd.func10, Tryd.ntmps10
  go_wp2_with fail
  go_ret
  exact ⟨rfl, rfl⟩
end Go.Proofs.YtofikmdfiimbbaaDoor
