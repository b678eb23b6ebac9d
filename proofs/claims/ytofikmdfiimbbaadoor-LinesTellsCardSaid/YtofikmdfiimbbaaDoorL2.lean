/- Plain rows. -/
import Derived.Test.YtofikmdfiimbbaaDoorL1
import Derived.Test.YtofikmdfiimbbaaDoorPc
set_option linter.unusedVariables false
set_option linter.unusedSimpArgs false
namespace Go.Proofs.YtofikmdfiimbbaaDoor
open Go.RowKit
set_option maxRecDepth 100000 in
set_option maxHeartbeats 2000000 in
theorem plain_any (s : ByteArray) (hs : s.size ≤ 1000000) (w : World) : Calls Tryd.prog 34 #[.agg #[.string s]] w fun e w' => e = .returned (.bool (Ln.plainB s.data.toList)) ∧ Below w.heap.size w w' := by
  obtain ⟨R, hR⟩ : ∃ R, Ln.plainB s.data.toList = R := ⟨_, rfl⟩
  rw [hR]
  have HR := Lib.hid hR
  clear hR
  go_enter Tryd.func34, Tryd.ntmps34
  go_wp2_with fail
  go_loopw [4] (fun _ wr => ∃ pos : Nat, wr.heap[w.heap.size + 1]? = some (.stringIter s pos) ∧ Ln.plainB (s.data.toList.drop pos) = R ∧ pos ≤ s.size ∧ Below w.heap.size w wr) (fun _ wr => s.size - wr.iterPos (w.heap.size + 1))
  case atStart => exact ⟨0, by have := World.iter_heap (w.alloc (Obj.cells #[Value.string s] 44)) s 0; simpa using this, by rw [List.drop_zero]; exact HR.out, Nat.zero_le _, ((Below.refl _ _).alloc (Nat.le_refl _) _).alloc (by simp) _⟩
  case round =>
    obtain ⟨pos, hit, hdr, hle, hbl⟩ := hrel
    by_cases hp : pos < s.size
    · have hnx : ∀ ty, (Instr.next (.pointer (some ⟨w.heap.size + 1, 0, none⟩)) true ty).run Tryd.prog wr = _ := fun ty => Lib.run_next_any_at wr (w.heap.size + 1) s pos ty hit hp
      rw [decode_dec] at hnx
      obtain ⟨r, hr⟩ : ∃ r, (Ln.dec (s.data.toList.drop pos)).1 = r := ⟨_, rfl⟩
      obtain ⟨n, hn⟩ : ∃ n, (Ln.dec (s.data.toList.drop pos)).2 = n := ⟨_, rfl⟩
      have hne : s.data.toList.drop pos ≠ [] := by
        intro e
        have := congrArg List.length e
        simp only [List.length_drop, text_size, List.length_nil] at this
        omega
      have hn1 : 1 ≤ n := by rw [← hn]; exact Ln.dec_pos _
      have hn2 : pos + n ≤ s.size := by
        have := Ln.dec_le _ hne
        simp only [List.length_drop, text_size] at this
        omega
      rw [hr, hn] at hnx
      have hmu : wr.iterPos (w.heap.size + 1) = pos := by simp [World.iterPos, hit]
      have hi1 := heap_iterAt wr (w.heap.size + 1) s s pos (pos + n) hit
      have hm1 : (wr.iterAt (w.heap.size + 1) s (pos + n)).iterPos (w.heap.size + 1) = pos + n := by simp [World.iterPos, hi1]
      have hb1 : Below w.heap.size w (wr.iterAt (w.heap.size + 1) s (pos + n)) := hbl.trans (below_iterAt _ _ _ _ _ (Nat.le_succ _))
      have hbad : (r < 32 ∨ r = 127) → R = false := fun h => by
        rw [← hdr]; exact Ln.plain_bad _ hne (by rw [hr]; exact h)
      have hgood : ¬ (r < 32 ∨ r = 127) → Ln.plainB (s.data.toList.drop (pos + n)) = R := fun h => by
        rw [← hdr, Ln.plain_step _ hne (by rw [hr]; exact h), hn, List.drop_drop]
      have HGD := Lib.hid hgood
      have HBD := Lib.hid hbad
      have HI := Lib.hid hi1
      have HM := Lib.hid hm1
      have HB1 := Lib.hid hb1
      clear hgood hbad hdr hr hn hne hbl hit hi1 hm1 hb1
      by_cases h1 : (r : Int) < 32
      · obtain rfl := HBD.out (.inl (by omega))
        go_wp2_with fail
        go_ret
        exact ⟨rfl, HB1.out⟩
      · by_cases h2 : (r : Int) = 127
        · obtain rfl := HBD.out (.inr (by omega))
          go_wp2_with fail
          go_ret
          exact ⟨rfl, HB1.out⟩
        · have hg := HGD.out (by omega)
          go_wp2_with fail
          go_roundw
          case rel => exact ⟨pos + n, HI.out, hg, hn2, HB1.out⟩
          case measure => rw [HM.out, hmu]; omega
    · have hnx : ∀ ty, (Instr.next (.pointer (some ⟨w.heap.size + 1, 0, none⟩)) true ty).run Tryd.prog wr = _ := fun ty => Lib.run_next_end_at wr (w.heap.size + 1) s pos ty hit hp
      have hR1 : R = true := by
        rw [← hdr, List.drop_eq_nil_of_le (by rw [text_size]; omega), Ln.plain_nil]
      subst hR1
      go_wp2_with fail
      go_ret
      exact ⟨rfl, hbl⟩
end Go.Proofs.YtofikmdfiimbbaaDoor
