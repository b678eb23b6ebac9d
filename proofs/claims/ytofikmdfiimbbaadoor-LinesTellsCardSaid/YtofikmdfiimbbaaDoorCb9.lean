/- A list of lines that came in, opened. -/
import Derived.Test.YtofikmdfiimbbaaDoorCb7
import Derived.Test.YtofikmdfiimbbaaDoorL11
import Derived.ChangeSlices
import Derived.Deep.SlicePairs
set_option linter.unusedVariables false
set_option linter.unusedSimpArgs false
namespace Go.Proofs.YtofikmdfiimbbaaDoor
open Go.ChangeShapes Go.WideShapes Go.ChangeAt Go.RowKit
theorem typesN : Tryd.prog.types.size = 134 := by kernel_rfl
theorem cellsL : Tryd.prog.cellsOf 36 = 3 := by kernel_rfl
theorem cellsI : Tryd.prog.cellsOf 3 = 1 := by kernel_rfl
theorem cellsT : Tryd.prog.cellsOf 9 = 1 := by kernel_rfl
theorem choose_list {α : Type} (n : Nat) (p : Nat → α → Prop) (h : ∀ i, i < n → ∃ x, p i x) : ∃ l : List α, l.length = n ∧ ∀ i x, l[i]? = some x → p i x := by
  induction n with
  | zero => exact ⟨[], rfl, fun i x hx => by simp at hx⟩
  | succ n ih =>
    obtain ⟨l, hl, hp⟩ := ih fun i hi => h i (by omega)
    obtain ⟨y, hy⟩ := h n (by omega)
    refine ⟨l ++ [y], by simp [hl], fun i x hx => ?_⟩
    by_cases hi : i < l.length
    · rw [List.getElem?_append_left hi] at hx
      exact hp i x hx
    · rw [List.getElem?_append_right (by omega)] at hx
      have : i - l.length = 0 := by
        by_cases h0 : i - l.length = 0
        · exact h0
        · rw [List.getElem?_eq_none (by simp; omega)] at hx; simp at hx
      rw [this] at hx
      simp only [List.getElem?_cons_zero, Option.some.injEq] at hx
      subst hx
      have : i = n := by omega
      rw [this]
      exact hy
theorem cell_lt {w : World} {b i : Nat} {v : Value} (h : w.cell? ⟨b, i, none⟩ = some v) : b < w.heap.size := by
  by_cases hb : b < w.heap.size
  · exact hb
  · have hn : w.heap[b]? = none := Array.getElem?_eq_none (by omega)
    simp [World.cell?, hn] at h
set_option maxRecDepth 100000 in
theorem open_lines {H : Type} {enc : TypeId × Value → H} {W : World} {base : Nat} {held : Bool} {fuel : Nat} {a : Option Addr} {len cap : Nat} {x : DataW H × List MemPlace}
    (hf : DataW.trod enc Tryd.prog W base (fun _ => true) held fuel 22 (Value.cells (.slice a len cap)).toList = some x) :
    ∃ l : List Ln.Line, (l.length = len ∧ len ≤ maxLen) ∧ (∀ y ∈ l, y.s.length ≤ maxLen) ∧ ∃ g o, LA W a g o l := by
  rcases Go.Deep.open_slice Tryd.underlying22 hf with ⟨hcs, _⟩ | ⟨ad, len', cap', m, n, D, Pl, hcs, hb, hl, hm, hmm, rfl, hx⟩
  · simp [Value.cells] at hcs
    obtain ⟨rfl, rfl, rfl⟩ := hcs
    exact ⟨[], ⟨rfl, Nat.zero_le _⟩, fun y hy => by simp at hy, 0, 0, fun h => absurd rfl h⟩
  · simp [Value.cells] at hcs
    obtain ⟨rfl, rfl, rfl⟩ := hcs
    simp only [if_true] at hmm
    have each : ∀ i, i < len → ∃ y : Ln.Line, W.cell? (ad.add (i * 3)) = some (.int .i64 y.no) ∧ W.cell? (ad.add (i * 3 + 1)) = some (.int .i64 y.ind) ∧ W.cell? (ad.add (i * 3 + 2)) = some (.string ⟨y.s.toArray⟩) ∧ y.s.length ≤ maxLen := by
      intro i hi
      obtain ⟨cs', h1, h2⟩ := hx i (by omega)
      rw [cellsL] at h1
      obtain ⟨_, hlen, hcell⟩ := World.cells?_some h1
      obtain ⟨xs, k, hk, hxy, _, hxl, hf⟩ := DataW.trod_struct Tryd.underlying36 h2
      match xs, hxl, cs', hlen with
      | [y0, y1, y2], _, [v0, v1, v2], _ =>
        have g0 := hf 0 _ rfl
        have g1 := hf 1 _ rfl
        have g2 := hf 2 _ rfl
        simp [cellsI, cellsT] at g0 g1 g2
        have e0 := hcell 0 (by omega)
        have e1 := hcell 1 (by omega)
        have e2 := hcell 2 (by omega)
        rw [Go.Deep.add_add] at e0 e1 e2
        obtain ⟨z0, hz0, _, _⟩ := DataW.trod_int Tryd.underlying3 g0
        obtain ⟨z1, hz1, _, _⟩ := DataW.trod_int Tryd.underlying3 g1
        obtain ⟨t, ht, _, ht2⟩ := DataW.trod_string Tryd.underlying9 g2
        obtain rfl := (List.cons.inj hz0).1
        obtain rfl := (List.cons.inj hz1).1
        obtain rfl := (List.cons.inj ht).1
        refine ⟨⟨z0, z1, t.data.toList⟩, by simpa using e0, by simpa using e1, by simpa using e2, ?_⟩
        show t.data.toList.length ≤ maxLen
        rw [text_size]
        exact ht2
    obtain ⟨l, hll, hp⟩ := choose_list len _ each
    obtain ⟨b, off, spot⟩ := ad
    refine ⟨l, ⟨hll, Nat.le_trans hl hm⟩, fun y hy => ?_, b, off, fun hne => ?_⟩
    · obtain ⟨i, hi⟩ := List.mem_iff_getElem?.1 hy
      exact (hp i y hi).2.2.2
    · have hspot : spot = none := by
        cases l with
        | nil => exact absurd rfl hne
        | cons y ys =>
          have h0 := (hp 0 y rfl).1
          simpa [Addr.add] using World.cell?_spot h0
      subst hspot
      refine ⟨rfl, ?_, fun i y hy => ?_⟩
      · cases l with
        | nil => exact absurd rfl hne
        | cons y ys =>
          have h0 := (hp 0 y rfl).1
          rw [add_plain] at h0
          exact cell_lt h0
      · obtain ⟨h0, h1, h2, _⟩ := hp i y hy
        rw [add_plain] at h0 h1 h2
        exact ⟨h0, by rw [Nat.add_assoc]; exact h1, by rw [Nat.add_assoc]; exact h2⟩
end Go.Proofs.YtofikmdfiimbbaaDoor
