/- The law DigestTwo: what a call of it answers, for every four texts. -/
import Derived.Test.YtfafidholldjlaaDoorZK
import Derived.Test.YtfafidholldjlaaDoorZG
import Derived.Test.YtfafidholldjlaaDoorZB
set_option linter.unusedVariables false
set_option linter.unusedSimpArgs false
namespace Go.Proofs.YtfafidholldjlaaDoor
open Go.RowKit
theorem append_list (a b : ByteArray) : (a ++ b).data.toList = a.data.toList ++ b.data.toList := by
  rw [ByteArray.data_append, Array.toList_append]
set_option maxRecDepth 100000 in
set_option maxHeartbeats 1000000 in
theorem two_law (a b c d : ByteArray) (ha : a.size ≤ maxLen) (hb : b.size ≤ maxLen) (hc : c.size ≤ maxLen) (hd : d.size ≤ maxLen) {B : Nat} {aw ab : Addr} {w : World} (hG : DGlob B aw ab w) :
    Calls Tryd.prog 13 #[.string a, .string b, .string c, .string d] w fun e w' => e = .returned (.bool true) ∧ Below w.heap.size w w' := by
  have HG := Lib.hid hG
  have HA := Lib.hid ha
  have HB' := Lib.hid hb
  have HC := Lib.hid hc
  have HD := Lib.hid hd
  have l0 := front_300 a
  have l1 := front_300 b
  have l2 := front_300 c
  have l3 := front_300 d
  clear hG ha hb hc hd
  go_enter Tryd.func13, Tryd.ntmps13
  go_wp2_with fail
  refine (dshown_any HG.out).mono ?_
  rintro e w1 ⟨rfl, hb1⟩
  have HB1 := Lib.hid hb1
  clear hb1
  go_wp2_with fail
  refine (dcut_any a HA.out _).mono ?_
  rintro e w' ⟨rfl, rfl⟩
  obtain ⟨fa, hfa⟩ : ∃ x, front a 300 = x := ⟨_, rfl⟩
  rw [hfa] at l0 ⊢
  clear hfa HA
  go_wp2_with fail
  refine (dcut_any b HB'.out _).mono ?_
  rintro e w' ⟨rfl, rfl⟩
  obtain ⟨fb, hfb⟩ : ∃ x, front b 300 = x := ⟨_, rfl⟩
  rw [hfb] at l1 ⊢
  clear hfb HB'
  go_wp2_with fail
  refine (dcut_any c HC.out _).mono ?_
  rintro e w' ⟨rfl, rfl⟩
  obtain ⟨fc, hfc⟩ : ∃ x, front c 300 = x := ⟨_, rfl⟩
  rw [hfc] at l2 ⊢
  clear hfc HC
  go_wp2_with fail
  refine (dcut_any d HD.out _).mono ?_
  rintro e w' ⟨rfl, rfl⟩
  obtain ⟨fd, hfd⟩ : ∃ x, front d 300 = x := ⟨_, rfl⟩
  rw [hfd] at l3 ⊢
  clear hfd HD
  go_wp2_with fail
  have la : (fa.size : Int) ≤ 8388608 := by omega
  have lb : (fb.size : Int) ≤ 8388608 := by omega
  have lc : (fc.size : Int) ≤ 8388608 := by omega
  have ld : (fd.size : Int) ≤ 8388608 := by omega
  have lac : fa.size + fc.size ≤ 9223372036854775807 := by omega
  have lbd : fb.size + fd.size ≤ 9223372036854775807 := by omega
  obtain ⟨sx, hsx⟩ : ∃ s, shaBytes (fa.data.toList ++ fc.data.toList) = s := ⟨_, rfl⟩
  obtain ⟨sy, hsy⟩ : ∃ s, shaBytes (fb.data.toList ++ fd.data.toList) = s := ⟨_, rfl⟩
  have HSX := Lib.hid hsx
  have HSY := Lib.hid hsy
  clear hsx hsy
  refine (new_any _).mono ?_
  rintro e w2 ⟨x, rfl, hx, hrx, hb2⟩
  have hbx : w.heap.size ≤ x := Nat.le_trans HB1.out.size hx
  have X2 := Lib.hid (hasher_new hrx)
  have hx2 : x < w2.heap.size := lt_of_heap hrx
  have HB2 := Lib.hid (HB1.out.trans (hb2.mono HB1.out.size))
  clear hrx hb2
  go_wp2_with fail
  refine (new_any _).mono ?_
  rintro e w3 ⟨y, rfl, hy, hry, hb3⟩
  have hby : w.heap.size ≤ y := Nat.le_trans HB2.out.size hy
  have hxy : x ≠ y := by omega
  have X3 := Lib.hid (X2.out.keep hb3)
  have Y3 := Lib.hid (hasher_new hry)
  have HB3 := Lib.hid (HB2.out.trans (hb3.mono HB2.out.size))
  clear hry hb3 X2
  go_wp2_with fail
  refine (write_ok (HG.out.glob.below (HB3.out.mono HG.out.glob.size)) x (Nat.le_trans HG.out.glob.size hbx) _ fa X3.out (by simp; omega)).mono ?_
  rintro e w4 ⟨rfl, hm, hf⟩
  have Y4 := Lib.hid (Y3.out.other X3.out hxy.symm hf)
  have X4 := Lib.hid hm
  have HB4 := Lib.hid (HB3.out.trans (hf.to_below HB3.out.size (by omega)))
  clear hm hf X3 Y3
  go_wp2_with fail
  refine (write_ok (HG.out.glob.below (HB4.out.mono HG.out.glob.size)) y (Nat.le_trans HG.out.glob.size hby) _ fb Y4.out (by simp; omega)).mono ?_
  rintro e w5 ⟨rfl, hm, hf⟩
  have X5 := Lib.hid (X4.out.other Y4.out hxy hf)
  have Y5 := Lib.hid hm
  have HB5 := Lib.hid (HB4.out.trans (hf.to_below HB4.out.size (by omega)))
  clear hm hf X4 Y4
  go_wp2_with fail
  refine (write_ok (HG.out.glob.below (HB5.out.mono HG.out.glob.size)) x (Nat.le_trans HG.out.glob.size hbx) _ fc X5.out (by simp; omega)).mono ?_
  rintro e w6 ⟨rfl, hm, hf⟩
  have Y6 := Lib.hid (Y5.out.other X5.out hxy.symm hf)
  have X6 := Lib.hid hm
  have HB6 := Lib.hid (HB5.out.trans (hf.to_below HB5.out.size (by omega)))
  clear hm hf X5 Y5
  go_wp2_with fail
  refine (write_ok (HG.out.glob.below (HB6.out.mono HG.out.glob.size)) y (Nat.le_trans HG.out.glob.size hby) _ fd Y6.out (by simp; omega)).mono ?_
  rintro e w7 ⟨rfl, hm, hf⟩
  have X7 := Lib.hid (X6.out.other Y6.out hxy hf)
  have Y7 := Lib.hid hm
  have HB7 := Lib.hid (HB6.out.trans (hf.to_below HB6.out.size (by omega)))
  clear hm hf X6 Y6
  go_wp2_with fail
  refine (dsum_ok (HG.out.glob.below (HB7.out.mono HG.out.glob.size)) (fa ++ fc) (by rw [ByteArray.size_append]; omega)).mono ?_
  rintro e w8 ⟨rfl, hb⟩
  rw [append_list, HSX.out]
  have X8 := Lib.hid (X7.out.keep hb)
  have Y8 := Lib.hid (Y7.out.keep hb)
  have HB8 := Lib.hid (HB7.out.trans (hb.mono HB7.out.size))
  clear hb X7 Y7
  go_wp2_with fail
  refine (dsum_ok (HG.out.glob.below (HB8.out.mono HG.out.glob.size)) (fb ++ fd) (by rw [ByteArray.size_append]; omega)).mono ?_
  rintro e w9 ⟨rfl, hb⟩
  rw [append_list, HSY.out]
  have X9 := Lib.hid (X8.out.keep hb)
  have Y9 := Lib.hid (Y8.out.keep hb)
  have HB9 := Lib.hid (HB8.out.trans (hb.mono HB8.out.size))
  clear hb X8 Y8
  go_wp2_with fail
  refine (hsum_any (HG.out.glob.below (HB9.out.mono HG.out.glob.size)) x (Nat.le_trans HG.out.glob.size hbx) _ X9.out (by simp; omega)).mono ?_
  rintro e w10 ⟨rfl, hm, hf⟩
  rw [List.nil_append, HSX.out]
  have Y10 := Lib.hid (Y9.out.other X9.out hxy.symm hf)
  have X10 := Lib.hid hm
  have HB10 := Lib.hid (HB9.out.trans (hf.to_below HB9.out.size (by omega)))
  clear hm hf X9 Y9
  go_wp2_with fail
  refine (hsum_any (HG.out.glob.below (HB10.out.mono HG.out.glob.size)) y (Nat.le_trans HG.out.glob.size hby) _ Y10.out (by simp; omega)).mono ?_
  rintro e w11 ⟨rfl, hm, hf⟩
  rw [List.nil_append, HSY.out]
  have X11 := Lib.hid (X10.out.other Y10.out hxy hf)
  have Y11 := Lib.hid hm
  have HB11 := Lib.hid (HB10.out.trans (hf.to_below HB10.out.size (by omega)))
  clear hm hf X10 Y10
  go_wp2_with fail
  go_ret
  exact ⟨rfl, HB11.out⟩
end Go.Proofs.YtfafidholldjlaaDoor
/- The law DigestResets: what a call of it answers, for every two texts. -/
set_option linter.unusedVariables false
set_option linter.unusedSimpArgs false
namespace Go.Proofs.YtfafidholldjlaaDoor
open Go.RowKit
set_option maxRecDepth 100000 in
set_option maxHeartbeats 1000000 in
theorem resets_law (a b : ByteArray) (ha : a.size ≤ maxLen) (hb : b.size ≤ maxLen) {B : Nat} {aw ab : Addr} {w : World} (hG : DGlob B aw ab w) :
    Calls Tryd.prog 15 #[.string a, .string b] w fun e w' => e = .returned (.bool true) ∧ Below w.heap.size w w' := by
  have HG := Lib.hid hG
  have HA := Lib.hid ha
  have HB' := Lib.hid hb
  have l0 := front_300 a
  have l1 := front_300 b
  clear hG ha hb
  go_enter Tryd.func15, Tryd.ntmps15
  go_wp2_with fail
  refine (dshown_any HG.out).mono ?_
  rintro e w1 ⟨rfl, hb1⟩
  have HB1 := Lib.hid hb1
  clear hb1
  go_wp2_with fail
  refine (dcut_any a HA.out _).mono ?_
  rintro e w' ⟨rfl, rfl⟩
  obtain ⟨fa, hfa⟩ : ∃ x, front a 300 = x := ⟨_, rfl⟩
  rw [hfa] at l0 ⊢
  clear hfa HA
  go_wp2_with fail
  refine (dcut_any b HB'.out _).mono ?_
  rintro e w' ⟨rfl, rfl⟩
  obtain ⟨fb, hfb⟩ : ∃ x, front b 300 = x := ⟨_, rfl⟩
  rw [hfb] at l1 ⊢
  clear hfb HB'
  go_wp2_with fail
  obtain ⟨sx, hsx⟩ : ∃ s, shaBytes fa.data.toList = s := ⟨_, rfl⟩
  obtain ⟨sy, hsy⟩ : ∃ s, shaBytes fb.data.toList = s := ⟨_, rfl⟩
  obtain ⟨z, hz⟩ : ∃ z, zeroText 100001 = z := ⟨_, rfl⟩
  have hzs : z.size = 100001 := by rw [← hz]; exact zeroText_size _
  have HSX := Lib.hid hsx
  have HSY := Lib.hid hsy
  have HZ := Lib.hid hz
  have HZS := Lib.hid hzs
  clear hsx hsy hz hzs
  refine (new_any _).mono ?_
  rintro e w2 ⟨x, rfl, hx, hrx, hb2⟩
  have hbx : w.heap.size ≤ x := Nat.le_trans HB1.out.size hx
  have X2 := Lib.hid (hasher_new hrx)
  have HB2 := Lib.hid (HB1.out.trans (hb2.mono HB1.out.size))
  clear hrx hb2
  go_wp2_with fail
  refine (write_ok (HG.out.glob.below (HB2.out.mono HG.out.glob.size)) x (Nat.le_trans HG.out.glob.size hbx) _ fa X2.out (by simp; omega)).mono ?_
  rintro e w3 ⟨rfl, hm, hf⟩
  rw [List.nil_append] at hm
  have X3 := Lib.hid hm
  have HB3 := Lib.hid (HB2.out.trans (hf.to_below HB2.out.size (by omega)))
  clear hm hf X2
  go_wp2_with fail
  refine (long_any _).mono ?_
  rintro e w4 ⟨rfl, hb4⟩
  rw [HZ.out]
  have X4 := Lib.hid (X3.out.keep hb4)
  have HB4 := Lib.hid (HB3.out.trans (hb4.mono HB3.out.size))
  clear hb4 X3
  go_wp2_with fail
  refine (write_long x _ z X4.out (by have := HZS.out; omega) (by have := HZS.out; omega) (by show fa.size ≤ 1000000; omega) (HG.out.below (HB4.out.mono HG.out.glob.size)).et (HG.out.below (HB4.out.mono HG.out.glob.size)).four).mono ?_
  rintro e w5 ⟨rfl, hm5, hb5⟩
  have X5 := Lib.hid hm5
  have HB5 := Lib.hid (HB4.out.trans (hb5.mono HB4.out.size))
  clear hm5 hb5 X4
  go_wp2_with fail
  refine (hsum_any (HG.out.glob.below (HB5.out.mono HG.out.glob.size)) x (Nat.le_trans HG.out.glob.size hbx) _ X5.out (by show fa.size ≤ 100000; omega)).mono ?_
  rintro e w6 ⟨rfl, hm, hf⟩
  rw [HSX.out]
  have X6 := Lib.hid hm
  have HB6 := Lib.hid (HB5.out.trans (hf.to_below HB5.out.size (by omega)))
  clear hm hf X5
  go_wp2_with fail
  obtain ⟨v6, r6, s6⟩ := X6.out
  have R6 := Lib.hid r6
  clear r6 s6 X6
  refine (reset_any x v6 _ _ _ R6.out).mono ?_
  rintro e w7 ⟨rfl, r7, hf⟩
  have X7 := Lib.hid (hasher_new r7)
  have HB7 := Lib.hid (HB6.out.trans (hf.to_below HB6.out.size (by omega)))
  have R7 := Lib.hid r7
  clear r7 hf R6
  go_wp2_with fail
  refine (len_any x _ _ _ _ R7.out).mono ?_
  rintro e w8 ⟨rfl, rfl⟩
  clear R7
  go_wp2_with fail
  refine (write_ok (HG.out.glob.below (HB7.out.mono HG.out.glob.size)) x (Nat.le_trans HG.out.glob.size hbx) _ fb X7.out (by simp; omega)).mono ?_
  rintro e w8 ⟨rfl, hm, hf⟩
  rw [List.nil_append] at hm
  have X8 := Lib.hid hm
  have HB8 := Lib.hid (HB7.out.trans (hf.to_below HB7.out.size (by omega)))
  clear hm hf X7
  go_wp2_with fail
  refine (dsum_ok (HG.out.glob.below (HB8.out.mono HG.out.glob.size)) fa (by omega)).mono ?_
  rintro e w9 ⟨rfl, hb9⟩
  rw [HSX.out]
  have X9 := Lib.hid (X8.out.keep hb9)
  have HB9 := Lib.hid (HB8.out.trans (hb9.mono HB8.out.size))
  clear hb9 X8
  go_wp2_with fail
  refine (dsum_ok (HG.out.glob.below (HB9.out.mono HG.out.glob.size)) fb (by omega)).mono ?_
  rintro e w10 ⟨rfl, hb10⟩
  rw [HSY.out]
  have X10 := Lib.hid (X9.out.keep hb10)
  have HB10 := Lib.hid (HB9.out.trans (hb10.mono HB9.out.size))
  clear hb10 X9
  go_wp2_with fail
  refine (hsum_any (HG.out.glob.below (HB10.out.mono HG.out.glob.size)) x (Nat.le_trans HG.out.glob.size hbx) _ X10.out (by show fb.size ≤ 100000; omega)).mono ?_
  rintro e w11 ⟨rfl, hm, hf⟩
  rw [HSY.out]
  have X11 := Lib.hid hm
  have HB11 := Lib.hid (HB10.out.trans (hf.to_below HB10.out.size (by omega)))
  clear hm hf X10
  go_wp2_with fail
  obtain ⟨v12, r12, s12⟩ := X11.out
  have R12 := Lib.hid r12
  clear r12 s12 X11
  refine (len_any x v12 _ _ _ R12.out).mono ?_
  rintro e w12 ⟨rfl, rfl⟩
  rw [show ((fb.data.toList.length : Nat) : Int) = (fb.size : Int) from rfl]
  go_wp2_with fail
  go_ret
  exact ⟨rfl, HB11.out⟩
end Go.Proofs.YtfafidholldjlaaDoor
/- The document's answer for a message's end: it is the same. -/
set_option linter.unusedVariables false
set_option linter.unusedSimpArgs false
namespace Go.Proofs.YtfafidholldjlaaDoor
open Go.RowKit
/-- A mark and so many bytes 00. -/
def markText (j : Nat) : ByteArray := ⟨(128 :: List.replicate j (0 : UInt8)).toArray⟩
theorem markText_size (j : Nat) : (markText j).size = j + 1 := by
  show (128 :: List.replicate j (0 : UInt8)).toArray.size = _
  simp
theorem markText_succ (j : Nat) : markText j ++ ⟨#[0]⟩ = markText (j + 1) := by
  apply ByteArray.ext
  rw [ByteArray.data_append]
  apply Array.toList_inj.1
  simp [markText, List.replicate_succ']
theorem refEnd_bad (n : Int) (hn : n < 0 ∨ 100000 < n) (w : World) :
    Calls Tryd.prog 39 #[.int .i64 n] w fun e w' => e = .returned (.tuple #[.string ⟨#[]⟩, .int .i64 20]) ∧ w = w' := by
  rcases hn with h | h
  · go_enter Tryd.func39, Tryd.ntmps39
    go_wp2_with fail
    exact bodyPost_ret (v := _) (by simp [results, Tryd.results39, go_sem]) rfl ⟨rfl, rfl⟩
  · have h' : ¬ n < 0 := by omega
    go_enter Tryd.func39, Tryd.ntmps39
    go_wp2_with fail
    exact bodyPost_ret (v := _) (by simp [results, Tryd.results39, go_sem]) rfl ⟨rfl, rfl⟩
theorem conv_eight (w : World) (n : Nat) (hn : n ≤ 100000) :
    (convert 40 9 (.slice (some ⟨w.heap.size, 0, none⟩) 4 4)).run Tryd.prog (w.alloc (.cells #[.int .u8 (8 * (n : Int) / 16777216), .int .u8 (8 * (n : Int) / 65536 % 256), .int .u8 (8 * (n : Int) / 256 % 256), .int .u8 (8 * (n : Int) % 256)] 5)) =
      .ok (.string ⟨(wordBytes (8 * n)).toArray⟩) (w.alloc (.cells #[.int .u8 (8 * (n : Int) / 16777216), .int .u8 (8 * (n : Int) / 65536 % 256), .int .u8 (8 * (n : Int) / 256 % 256), .int .u8 (8 * (n : Int) % 256)] 5)) := by
  have hw := wordCells (8 * n)
  have ec : ((8 * n : Nat) : Int) = 8 * (n : Int) := by omega
  rw [ec] at hw
  have e : (8 * (n : Int) / 16777216 % 256) = 8 * (n : Int) / 16777216 := by omega
  rw [e] at hw
  refine run_convert_bytes_back (P := Tryd.prog) _ 40 9 5 ⟨w.heap.size, 0, none⟩ 4 (wordBytes (8 * n)) Tryd.underlying40 Tryd.underlying5 Tryd.underlying9 (fun j hj => ?_)
  rw [Addr.add_lit, Nat.zero_add, cell_of (alloc_heap w _) j]
  have h4 : (byteCells (wordBytes (8 * n)))[j]? = some (.int .u8 (((wordBytes (8 * n))[j].toNat : Nat) : Int)) := by simp [byteCells, List.getElem?_eq_getElem hj]
  rw [← h4, hw]
  simp
set_option maxRecDepth 100000 in
theorem refEnd_ok (n : Nat) (hn : n ≤ 100000) (w : World) :
    Calls Tryd.prog 39 #[.int .i64 (n : Int)] w fun e w' => e = .returned (.tuple #[.string ⟨(Sha.endOf n).toArray⟩, .int .i64 0]) ∧ Below w.heap.size w w' := by
  have q0 : (0 : Int) ≤ (n : Int) := by omega
  have q1 : (n : Int) ≤ 100000 := by omega
  go_enter Tryd.func39, Tryd.ntmps39
  go_wp2_with fail

  go_loopw [4] (fun v W => ∃ j : Nat, j ≤ Sha.zeros n ∧ v = .string (markText j) ∧ W = w) (fun v _ => 64 - (match v with | .string s => s.size | _ => 0))
  case atStart => exact ⟨0, by omega, rfl, rfl⟩
  case round =>
    obtain ⟨j, hj, rfl, rfl⟩ := hrel
    have hz : Sha.zeros n ≤ 63 := by unfold Sha.zeros; omega
    have hs := markText_size j
    by_cases hlt : j < Sha.zeros n
    · have hsu := markText_succ j
      have HSU := Lib.hid hsu
      clear hsu
      generalize hp : markText j = p at hs HSU ⊢
      have hne : ¬ (((n : Int) + (p.size : Int) + 8) % 64 = 0) := by
        have : Sha.zeros n = (119 - n % 64) % 64 := rfl
        omega
      have l0 : (p.size : Int) ≤ 64 := by omega
      go_wp2_with fail
      go_roundw
      case rel => exact ⟨j + 1, by omega, by rw [HSU.out], trivial⟩
      case measure =>
        have h1 : (⟨#[0]⟩ : ByteArray).size = 1 := rfl
        simp only [ByteArray.size_append, h1]
        omega
    · obtain rfl : j = Sha.zeros n := by omega
      have he : ((n : Int) + ((markText (Sha.zeros n)).size : Int) + 8) % 64 = 0 := by
        have : Sha.zeros n = (119 - n % 64) % 64 := rfl
        omega
      generalize hp : markText (Sha.zeros n) = p at hs he ⊢
      have l0 : (p.size : Int) ≤ 64 := by omega
      have hfin : p ++ ⟨#[0, 0, 0, 0]⟩ ++ ⟨(wordBytes (8 * n)).toArray⟩ = ⟨(Sha.endOf n).toArray⟩ := by
        rw [← hp]
        apply ByteArray.ext
        rw [ByteArray.data_append, ByteArray.data_append]
        apply Array.toList_inj.1
        simp [markText, Sha.endOf, wordBytes]
      have hcv := conv_eight wr n hn
      have h4 : (⟨(wordBytes (8 * n)).toArray⟩ : ByteArray).size = 4 := rfl
      have h4' : (p ++ ⟨#[0, 0, 0, 0]⟩).size = p.size + 4 := ByteArray.size_append
      have l4 : ((⟨(wordBytes (8 * n)).toArray⟩ : ByteArray).size : Int) ≤ 8388608 := by rw [h4]; decide
      obtain ⟨wb, hwb⟩ : ∃ wb, (⟨(wordBytes (8 * n)).toArray⟩ : ByteArray) = wb := ⟨_, rfl⟩
      rw [hwb] at hcv h4 l4 hfin
      have l5 : ((p ++ ⟨#[0, 0, 0, 0]⟩).size : Int) ≤ 8388608 := by omega
      have l6 : (p ++ ⟨#[0, 0, 0, 0]⟩).size + wb.size ≤ 9223372036854775807 := by omega
      go_wp2_with fail
      exact bodyPost_ret (v := _) (by simp [results, Tryd.results39, go_sem]) rfl ⟨rfl, (Below.refl _ _).alloc (Nat.le_refl _) _⟩
end Go.Proofs.YtfafidholldjlaaDoor
