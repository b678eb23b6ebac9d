/- The law DigestResets: what a call of it answers, for every two texts. -/
import Derived.Test.YtfafidholldjlaaDoorE16
set_option linter.unusedVariables false
set_option linter.unusedSimpArgs false
namespace Go.Proofs.YtfafidholldjlaaDoor
open Go.RowKit
set_option maxRecDepth 100000 in
set_option maxHeartbeats 1000000 in
theorem resets_law (a b : ByteArray) (ha : a.size ≤ maxLen) (hb : b.size ≤ maxLen) {B : Nat} {aw ab : Addr} {w : World} (hG : DGlob B aw ab w) :
    Calls Tryd.prog 15 #[.string a, .string b] w fun e w' => e = .returned (.bool true) ∧ Below w.heap.size w w' := by
  have HG := Lib.hid hG
  have HA := Lib.hid ha
  have HB' := Lib.hid hb
  have l0 := front_300 a
  have l1 := front_300 b
  clear hG ha hb
  go_enter Tryd.func15, Tryd.ntmps15
  go_wp2_with fail
  refine (dshown_any HG.out).mono ?_
  rintro e w1 ⟨rfl, hb1⟩
  have HB1 := Lib.hid hb1
  clear hb1
  go_wp2_with fail
  refine (dcut_any a HA.out _).mono ?_
  rintro e w' ⟨rfl, rfl⟩
  obtain ⟨fa, hfa⟩ : ∃ x, front a 300 = x := ⟨_, rfl⟩
  rw [hfa] at l0 ⊢
  clear hfa HA
  go_wp2_with fail
  refine (dcut_any b HB'.out _).mono ?_
  rintro e w' ⟨rfl, rfl⟩
  obtain ⟨fb, hfb⟩ : ∃ x, front b 300 = x := ⟨_, rfl⟩
  rw [hfb] at l1 ⊢
  clear hfb HB'
  go_wp2_with fail
  obtain ⟨sx, hsx⟩ : ∃ s, shaBytes fa.data.toList = s := ⟨_, rfl⟩
  obtain ⟨sy, hsy⟩ : ∃ s, shaBytes fb.data.toList = s := ⟨_, rfl⟩
  obtain ⟨z, hz⟩ : ∃ z, zeroText 100001 = z := ⟨_, rfl⟩
  have hzs : z.size = 100001 := by rw [← hz]; exact zeroText_size _
  have HSX := Lib.hid hsx
  have HSY := Lib.hid hsy
  have HZ := Lib.hid hz
  have HZS := Lib.hid hzs
  clear hsx hsy hz hzs
  refine (new_any _).mono ?_
  rintro e w2 ⟨x, rfl, hx, hrx, hb2⟩
  have hbx : w.heap.size ≤ x := Nat.le_trans HB1.out.size hx
  have X2 := Lib.hid (hasher_new hrx)
  have HB2 := Lib.hid (HB1.out.trans (hb2.mono HB1.out.size))
  clear hrx hb2
  go_wp2_with fail
  refine (write_ok (HG.out.glob.below (HB2.out.mono HG.out.glob.size)) x (Nat.le_trans HG.out.glob.size hbx) _ fa X2.out (by simp; omega)).mono ?_
  rintro e w3 ⟨rfl, hm, hf⟩
  rw [List.nil_append] at hm
  have X3 := Lib.hid hm
  have HB3 := Lib.hid (HB2.out.trans (hf.to_below HB2.out.size (by omega)))
  clear hm hf X2
  go_wp2_with fail
  refine (long_any _).mono ?_
  rintro e w4 ⟨rfl, hb4⟩
  rw [HZ.out]
  have X4 := Lib.hid (X3.out.keep hb4)
  have HB4 := Lib.hid (HB3.out.trans (hb4.mono HB3.out.size))
  clear hb4 X3
  go_wp2_with fail
  refine (write_long x _ z X4.out (by have := HZS.out; omega) (by have := HZS.out; omega) (by show fa.size ≤ 1000000; omega) (HG.out.below (HB4.out.mono HG.out.glob.size)).et (HG.out.below (HB4.out.mono HG.out.glob.size)).four).mono ?_
  rintro e w5 ⟨rfl, hm5, hb5⟩
  have X5 := Lib.hid hm5
  have HB5 := Lib.hid (HB4.out.trans (hb5.mono HB4.out.size))
  clear hm5 hb5 X4
  go_wp2_with fail
  refine (hsum_any (HG.out.glob.below (HB5.out.mono HG.out.glob.size)) x (Nat.le_trans HG.out.glob.size hbx) _ X5.out (by show fa.size ≤ 100000; omega)).mono ?_
  rintro e w6 ⟨rfl, hm, hf⟩
  rw [HSX.out]
  have X6 := Lib.hid hm
  have HB6 := Lib.hid (HB5.out.trans (hf.to_below HB5.out.size (by omega)))
  clear hm hf X5
  go_wp2_with fail
  obtain ⟨v6, r6, s6⟩ := X6.out
  have R6 := Lib.hid r6
  clear r6 s6 X6
  refine (reset_any x v6 _ _ _ R6.out).mono ?_
  rintro e w7 ⟨rfl, r7, hf⟩
  have X7 := Lib.hid (hasher_new r7)
  have HB7 := Lib.hid (HB6.out.trans (hf.to_below HB6.out.size (by omega)))
  have R7 := Lib.hid r7
  clear r7 hf R6
  go_wp2_with fail
  refine (len_any x _ _ _ _ R7.out).mono ?_
  rintro e w8 ⟨rfl, rfl⟩
  clear R7
  go_wp2_with fail
  refine (write_ok (HG.out.glob.below (HB7.out.mono HG.out.glob.size)) x (Nat.le_trans HG.out.glob.size hbx) _ fb X7.out (by simp; omega)).mono ?_
  rintro e w8 ⟨rfl, hm, hf⟩
  rw [List.nil_append] at hm
  have X8 := Lib.hid hm
  have HB8 := Lib.hid (HB7.out.trans (hf.to_below HB7.out.size (by omega)))
  clear hm hf X7
  go_wp2_with fail
  refine (dsum_ok (HG.out.glob.below (HB8.out.mono HG.out.glob.size)) fa (by omega)).mono ?_
  rintro e w9 ⟨rfl, hb9⟩
  rw [HSX.out]
  have X9 := Lib.hid (X8.out.keep hb9)
  have HB9 := Lib.hid (HB8.out.trans (hb9.mono HB8.out.size))
  clear hb9 X8
  go_wp2_with fail
  refine (dsum_ok (HG.out.glob.below (HB9.out.mono HG.out.glob.size)) fb (by omega)).mono ?_
  rintro e w10 ⟨rfl, hb10⟩
  rw [HSY.out]
  have X10 := Lib.hid (X9.out.keep hb10)
  have HB10 := Lib.hid (HB9.out.trans (hb10.mono HB9.out.size))
  clear hb10 X9
  go_wp2_with fail
  refine (hsum_any (HG.out.glob.below (HB10.out.mono HG.out.glob.size)) x (Nat.le_trans HG.out.glob.size hbx) _ X10.out (by show fb.size ≤ 100000; omega)).mono ?_
  rintro e w11 ⟨rfl, hm, hf⟩
  rw [HSY.out]
  have X11 := Lib.hid hm
  have HB11 := Lib.hid (HB10.out.trans (hf.to_below HB10.out.size (by omega)))
  clear hm hf X10
  go_wp2_with fail
  obtain ⟨v12, r12, s12⟩ := X11.out
  have R12 := Lib.hid r12
  clear r12 s12 X11
  refine (len_any x v12 _ _ _ R12.out).mono ?_
  rintro e w12 ⟨rfl, rfl⟩
  rw [show ((fb.data.toList.length : Nat) : Int) = (fb.size : Int) from rfl]
  go_wp2_with fail
  go_ret
  exact ⟨rfl, HB11.out⟩
end Go.Proofs.YtfafidholldjlaaDoor
