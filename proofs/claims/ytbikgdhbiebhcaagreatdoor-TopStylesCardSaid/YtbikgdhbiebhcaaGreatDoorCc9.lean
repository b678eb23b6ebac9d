/- A list of texts that came in, opened. -/
import Derived.Test.YtbikgdhbiebhcaaGreatDoorCc7
import Derived.Test.YtbikgdhbiebhcaaGreatDoorW00
import Derived.ChangeSlices
import Derived.Deep.SlicePairs
set_option linter.unusedVariables false
set_option linter.unusedSimpArgs false
set_option maxRecDepth 100000
set_option maxHeartbeats 2000000
namespace Go.Proofs.YtbikgdhbiebhcaaGreatDoor
open Go.ChangeShapes Go.WideShapes Go.ChangeAt Go.RowKit
theorem typesN : Tryz.prog.types.size = 553 := by kernel_rfl
theorem add_plain' (b o i : Nat) : (⟨b, o, none⟩ : Addr).add i = ⟨b, o + i, none⟩ := by unfold Addr.add; simp
theorem choose_list {α : Type} (n : Nat) (p : Nat → α → Prop) (h : ∀ i, i < n → ∃ x, p i x) : ∃ l : List α, l.length = n ∧ ∀ i x, l[i]? = some x → p i x := by
  induction n with
  | zero => exact ⟨[], rfl, fun i x hx => by simp at hx⟩
  | succ n ih =>
    obtain ⟨l, hl, hp⟩ := ih fun i hi => h i (by omega)
    obtain ⟨y, hy⟩ := h n (by omega)
    refine ⟨l ++ [y], by simp [hl], fun i x hx => ?_⟩
    by_cases hi : i < l.length
    · rw [List.getElem?_append_left hi] at hx
      exact hp i x hx
    · rw [List.getElem?_append_right (by omega)] at hx
      have : i - l.length = 0 := by
        by_cases h0 : i - l.length = 0
        · exact h0
        · rw [List.getElem?_eq_none (by simp; omega)] at hx; simp at hx
      rw [this] at hx
      simp only [List.getElem?_cons_zero, Option.some.injEq] at hx
      subst hx
      have : i = n := by omega
      rw [this]
      exact hy
theorem cell_lt {w : World} {b i : Nat} {v : Value} (h : w.cell? ⟨b, i, none⟩ = some v) : b < w.heap.size := by
  by_cases hb : b < w.heap.size
  · exact hb
  · have hn : w.heap[b]? = none := Array.getElem?_eq_none (by omega)
    simp [World.cell?, hn] at h
theorem open_strings {H : Type} {enc : TypeId × Value → H} {W : World} {base : Nat} {held : Bool} {fuel : Nat} {a : Option Addr} {len cap : Nat} {x : DataW H × List MemPlace}
    (hf : DataW.trod enc Tryz.prog W base (fun _ => true) held fuel 22 (Value.cells (.slice a len cap)).toList = some x) :
    ∃ l : List ByteArray, (l.length = len ∧ len ≤ maxLen) ∧ (∀ y ∈ l, y.size ≤ maxLen) ∧ ∃ g o, RA W a g o (l.map Value.string) := by
  rcases Go.Deep.open_slice Tryz.underlying22 hf with ⟨hcs, _⟩ | ⟨ad, len', cap', m, n, D, Pl, hcs, hb, hl, hm, hmm, rfl, hx⟩
  · simp [Value.cells] at hcs
    obtain ⟨rfl, rfl, rfl⟩ := hcs
    exact ⟨[], ⟨rfl, Nat.zero_le _⟩, fun y hy => by simp at hy, 0, 0, fun h => absurd rfl h⟩
  · simp [Value.cells] at hcs
    obtain ⟨rfl, rfl, rfl⟩ := hcs
    simp only [if_true] at hmm
    have each : ∀ i, i < len → ∃ y : ByteArray, W.cell? (ad.add i) = some (.string y) ∧ y.size ≤ maxLen := by
      intro i hi
      obtain ⟨cs', h1, h2⟩ := hx i (by omega)
      rw [cellsS] at h1
      obtain ⟨_, hlen, hcell⟩ := World.cells?_some h1
      match cs', hlen with
      | [v0], _ =>
        have e0 := hcell 0 (by omega)
        rw [Go.Deep.add_add] at e0
        obtain ⟨t, ht, _, ht2⟩ := DataW.trod_string Tryz.underlying9 h2
        obtain rfl := (List.cons.inj ht).1
        exact ⟨t, by simpa using e0, ht2⟩
    obtain ⟨l, hll, hp⟩ := choose_list len _ each
    obtain ⟨b, off, spot⟩ := ad
    refine ⟨l, ⟨hll, Nat.le_trans hl hm⟩, fun y hy => ?_, b, off, fun hne => ?_⟩
    · obtain ⟨i, hi⟩ := List.mem_iff_getElem?.1 hy
      exact (hp i y hi).2
    · have hspot : spot = none := by
        cases l with
        | nil => exact absurd rfl hne
        | cons y ys =>
          have h0 := (hp 0 y rfl).1
          simpa [Addr.add] using World.cell?_spot h0
      subst hspot
      refine ⟨rfl, ?_, fun i v hv => ?_⟩
      · cases l with
        | nil => exact absurd rfl hne
        | cons y ys =>
          have h0 := (hp 0 y rfl).1
          rw [add_plain'] at h0
          exact cell_lt h0
      · rw [List.getElem?_map] at hv
        obtain ⟨y, hy, rfl⟩ := Option.map_eq_some_iff.1 hv
        have h0 := (hp i y hy).1
        rw [add_plain'] at h0
        exact h0
end Go.Proofs.YtbikgdhbiebhcaaGreatDoor
