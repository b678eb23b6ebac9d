/- Right texts. -/
import Derived.Test.YtofikmdfiimbbaaDoorGb
set_option linter.unusedVariables false
set_option linter.unusedSimpArgs false
namespace Go.Proofs.YtofikmdfiimbbaaDoor
open Go.RowKit
theorem below_iterAt (B : Nat) (w : World) (k : Nat) (s : ByteArray) (q : Nat) (hk : B ≤ k) : Below B w (w.iterAt k s q) := by
  refine ⟨rfl, rfl, rfl, by rw [Lib.iterAt_size]; exact Nat.le_refl _, fun i hi => ?_⟩
  simp only [World.iterAt]
  rw [Array.getElem?_setIfInBounds_ne (by omega)]
theorem heap_iterAt (w : World) (k : Nat) (s s' : ByteArray) (p q : Nat) (h : w.heap[k]? = some (.stringIter s' p)) : (w.iterAt k s q).heap[k]? = some (.stringIter s q) := by
  simp only [World.iterAt]
  rw [Array.getElem?_setIfInBounds_self_of_lt (lt_of_heap h)]
theorem dec_cases (l : Ln.B) : ((Ln.dec l).1 = 65533 ∧ (Ln.dec l).2 = 1) ∨ ¬ (((Ln.dec l).1 : Int) = 65533 ∧ ((Ln.dec l).2 : Int) = 1) := by
  by_cases h : (Ln.dec l).1 = 65533 ∧ (Ln.dec l).2 = 1
  · exact .inl h
  · refine .inr fun h' => h ⟨by omega, by omega⟩
set_option maxRecDepth 100000 in
set_option maxHeartbeats 2000000 in
theorem right_any (s : ByteArray) (hs : s.size ≤ 1000000) (w : World) (hG : Glob w) : Calls Tryd.prog 18 #[.string s] w fun e w' => e = .returned (.bool (Ln.right s.data.toList)) ∧ Below w.heap.size w w' := by
  obtain ⟨R, hR⟩ : ∃ R, Ln.right s.data.toList = R := ⟨_, rfl⟩
  rw [hR]
  have HG := Lib.hid hG
  have HR := Lib.hid hR
  clear hG hR
  go_enter Tryd.func18, Tryd.ntmps18
  go_wp2_with fail
  go_loopw [3, 4, 5, 6] (fun _ _ _ _ wr => ∃ pos : Nat, wr.heap[w.heap.size]? = some (.stringIter s pos) ∧ Ln.right (s.data.toList.drop pos) = R ∧ pos ≤ s.size ∧ Below w.heap.size w wr) (fun _ _ _ _ wr => s.size - wr.iterPos w.heap.size)
  case atStart => exact ⟨0, World.iter_heap w s 0, by rw [List.drop_zero]; exact HR.out, Nat.zero_le _, (Below.refl _ _).alloc (Nat.le_refl _) _⟩
  case round =>
    obtain ⟨pos, hit, hdr, hle, hbl⟩ := hrel
    by_cases hp : pos < s.size
    · have hnx : ∀ ty, (Instr.next (.pointer (some ⟨w.heap.size, 0, none⟩)) true ty).run Tryd.prog wr = _ := fun ty => Lib.run_next_any_at wr w.heap.size s pos ty hit hp
      rw [decode_dec] at hnx
      obtain ⟨r, hr⟩ : ∃ r, (Ln.dec (s.data.toList.drop pos)).1 = r := ⟨_, rfl⟩
      obtain ⟨n, hn⟩ : ∃ n, (Ln.dec (s.data.toList.drop pos)).2 = n := ⟨_, rfl⟩
      have hne : s.data.toList.drop pos ≠ [] := by
        intro e
        have := congrArg List.length e
        simp only [List.length_drop, Array.length_toList, List.length_nil] at this
        have h2 : s.data.size = s.size := rfl
        omega
      have hn1 : 1 ≤ n := by rw [← hn]; exact Ln.dec_pos _
      have hn2 : pos + n ≤ s.size := by
        have := Ln.dec_le _ hne
        simp only [List.length_drop, Array.length_toList] at this
        have h2 : s.data.size = s.size := rfl
        omega
      rw [hr, hn] at hnx
      have hmu : wr.iterPos w.heap.size = pos := by simp [World.iterPos, hit]
      have hpi : (pos : Int) ≤ (s.size : Int) := by omega
      have hpn : (0 : Int) ≤ (pos : Int) := by omega
      have hsz1 : (s.extract pos s.size).size ≠ 0 := by
        rw [ByteArray.size_extract]
        omega
      have hdd : (s.extract pos s.size).data.toList = s.data.toList.drop pos := by
        rw [ByteArray.data_extract, Array.toList_extract, List.extract_eq_take_drop]
        exact List.take_of_length_le (by simp only [List.length_drop, Array.length_toList]; exact Nat.le_refl _)
      have hgo := decodeGo_dec (s.extract pos s.size) hsz1
      rw [hdd] at hgo
      have hT : Lib.Utf8Tabs 0 1 (wr.iterAt w.heap.size s (pos + n)) := by
        have hb : Below w.heap.size w (wr.iterAt w.heap.size s (pos + n)) := hbl.trans (below_iterAt _ _ _ _ _ (Nat.le_refl _))
        exact (HG.out.step hb).2.1
      have hcall := Tryd.utf8_DecodeRuneInString (s.extract pos s.size) _ hT
      rw [hgo, hr, hn] at hcall
      clear hgo hdd hsz1 hT
      have hc := dec_cases (s.data.toList.drop pos)
      rw [hr, hn] at hc
      have hbad : r = 65533 ∧ n = 1 → R = false := by
        rintro ⟨rfl, rfl⟩
        rw [← hdr, Ln.right_bad _ hne (Prod.ext hr hn)]
      have hgood : ¬ ((r : Int) = 65533 ∧ (n : Int) = 1) → Ln.right (s.data.toList.drop (pos + n)) = R := by
        intro h
        rw [← hdr, Ln.right_step _ hne (by intro e; exact h ⟨by have := congrArg Prod.fst e; rw [hr] at this; simp only at this; omega, by have := congrArg Prod.snd e; rw [hn] at this; simp only at this; omega⟩), hn, List.drop_drop]
      have HGD := Lib.hid hgood
      have HBD := Lib.hid hbad
      have HHB := Lib.hid hbl
      have HIT := Lib.hid hit
      clear hgood hbad hdr hr hn hne hbl hit
      go_wp2_with fail
      refine hcall.mono ?_
      rintro e w1 ⟨rfl, hw1⟩
      have hw2 : Below w.heap.size w w1 := (HHB.out.trans (below_iterAt _ _ _ _ _ (Nat.le_refl _))).trans (hw1.mono (by rw [Lib.iterAt_size]; exact HHB.out.size))
      have hi1 : w1.heap[w.heap.size]? = some (.stringIter s (pos + n)) := (hw1.block _ (by rw [Lib.iterAt_size]; exact lt_of_heap HIT.out)).trans (heap_iterAt _ _ _ _ _ _ HIT.out)
      have hm1 : w1.iterPos w.heap.size = pos + n := by simp [World.iterPos, hi1]
      rcases hc with ⟨h1, h2⟩ | hc
      · obtain rfl := HBD.out ⟨h1, h2⟩
        have h1' : (r : Int) = 65533 := by omega
        have h2' : (n : Int) = 1 := by omega
        clear h1 h2 hcall hnx hmu hm1
        go_wp2_with fail
        go_ret
        exact ⟨rfl, hw2⟩
      · have hg := HGD.out hc
        have hx : (r : Int) = 65533 → ¬ (n : Int) = 1 := fun h1 h2 => hc ⟨h1, h2⟩
        by_cases h1 : (r : Int) = 65533
        · have h2 := hx h1
          go_wp2_with fail
          go_roundw
          case rel => exact ⟨pos + n, hi1, hg, hn2, hw2⟩
          case measure => rw [hm1, hmu]; omega
        · go_wp2_with fail
          go_roundw
          case rel => exact ⟨pos + n, hi1, hg, hn2, hw2⟩
          case measure => rw [hm1, hmu]; omega
    · have hnx : ∀ ty, (Instr.next (.pointer (some ⟨w.heap.size, 0, none⟩)) true ty).run Tryd.prog wr = _ := fun ty => Lib.run_next_end_at wr w.heap.size s pos ty hit hp
      have hR1 : R = true := by
        rw [← hdr, List.drop_eq_nil_of_le (by have h2 : s.data.size = s.size := rfl; simp only [Array.length_toList]; omega), Ln.right_nil]
      subst hR1
      go_wp2_with fail
      go_ret
      exact ⟨rfl, hbl⟩
end Go.Proofs.YtofikmdfiimbbaaDoor
