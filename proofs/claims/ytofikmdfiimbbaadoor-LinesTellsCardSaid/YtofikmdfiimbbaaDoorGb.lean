/- What the listed variables hold, and that it is kept. -/
import Derived.Test.YtofikmdfiimbbaaDoorShelf
import Derived.Test.YtofikmdfiimbbaaDoorFar
import Derived.Test.YtofikmdfiimbbaaDoorPb
import Derived.Lib.Hide
import Derived.Lib.OthersKept
import Derived.Laws.Runes
set_option linter.unusedVariables false
set_option linter.unusedSimpArgs false
namespace Go.Proofs.YtofikmdfiimbbaaDoor
open Go.RowKit
def Glob (w : World) : Prop := 3 ≤ w.heap.size ∧ Lib.Utf8Tabs 0 1 w ∧ ∃ m : Int, w.cell? ⟨2, 0, none⟩ = some (.int .i64 m)
theorem Glob.keep {w w' : World} {B : Nat} (h : Glob w) (hb : Below B w w') (hB : 3 ≤ B) : Glob w' := by
  obtain ⟨h1, h2, m, h3⟩ := h
  have hc : ∀ (g i : Nat), g < 3 → w'.cell? ⟨g, i, none⟩ = w.cell? ⟨g, i, none⟩ := fun g i hg => World.cell?_of_block (w := w) (hb.block g (by omega))
  refine ⟨Nat.le_trans h1 hb.size, ⟨fun c hcc => (hc 0 c (by omega)).trans (h2.1 c hcc), fun i hi => ?_⟩, m, (hc 2 0 (by omega)).trans h3⟩
  obtain ⟨a, b⟩ := h2.2 i hi
  exact ⟨(hc 1 _ (by omega)).trans a, (hc 1 _ (by omega)).trans b⟩
theorem Glob.step {w w' : World} (h : Glob w) (hb : Below w.heap.size w w') : Glob w' := h.keep hb h.1
/-- The sign at a place, and the text from there on. -/
theorem decode_dec (s : ByteArray) (i : Nat) : Utf8.decode s i = Ln.dec (s.data.toList.drop i) := by
  have e : ∀ k, (s.get! (i + k)).toNat = Ln.nat (s.data.toList.drop i) k := by
    intro k
    unfold Ln.nat
    rw [List.getD_eq_getElem?_getD, List.getElem?_drop, Array.getElem?_toList]
    show (s.data[i + k]!).toNat = _
    rw [Array.getElem!_eq_getD, Array.getD_eq_getD_getElem?]
    rfl
  have e0 := e 0
  rw [Nat.add_zero] at e0
  rw [Lib.decode_at, e0, e 1, e 2, e 3]
  unfold Ln.dec
  rw [List.length_drop, Array.length_toList]
  rfl
theorem decodeGo_dec (s : ByteArray) (h : s.size ≠ 0) : Lib.decodeGo s = Ln.dec s.data.toList := by
  unfold Lib.decodeGo
  rw [if_neg h, decode_dec, List.drop_zero]
theorem width_pos (s : ByteArray) (pos : Nat) : 1 ≤ (Utf8.decode s pos).2 := by
  rw [decode_dec]; exact Ln.dec_pos _
theorem nat_get (s : ByteArray) (k : Nat) (h : k < s.size) : (s[k]'h).toNat = Ln.nat s.data.toList k := by
  unfold Ln.nat
  have h' : k < s.data.size := h
  rw [List.getD_eq_getElem?_getD, List.getElem?_eq_getElem (by simpa using h')]
  rfl
theorem idx9 (s : ByteArray) (i : Int) (k : Nat) (h : i = (k : Int)) (hk : k < s.size) (W : World) : (Instr.index 9 (.string s) (.int .i64 i)).run Tryd.prog W = .ok (.int .u8 (Ln.nat s.data.toList k : Nat)) W := by
  subst h
  rw [run_index_string (P := Tryd.prog) W 9 s .i64 (k : Int) Tryd.underlying9, dif_pos (by omega)]
  congr 3
  exact nat_get s k hk
theorem text_eq (a b : ByteArray) : (a.toList == b.toList) = decide (a.data.toList = b.data.toList) := by
  rw [ByteArray.toList_eq, ByteArray.toList_eq]
  by_cases h : a.data.toList = b.data.toList
  · rw [decide_eq_true h]; simpa using h
  · rw [decide_eq_false h]; simpa using h
theorem text_size (s : ByteArray) : s.data.toList.length = s.size := by rw [Array.length_toList]; rfl
end Go.Proofs.YtofikmdfiimbbaaDoor
