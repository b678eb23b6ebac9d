/- The law DigestTwo: what a call of it answers, for every four texts. -/
import Derived.Test.YtfafidholldjlaaDoorE15
set_option linter.unusedVariables false
set_option linter.unusedSimpArgs false
namespace Go.Proofs.YtfafidholldjlaaDoor
open Go.RowKit
theorem append_list (a b : ByteArray) : (a ++ b).data.toList = a.data.toList ++ b.data.toList := by
  rw [ByteArray.data_append, Array.toList_append]
set_option maxRecDepth 100000 in
set_option maxHeartbeats 1000000 in
theorem two_law (a b c d : ByteArray) (ha : a.size ≤ maxLen) (hb : b.size ≤ maxLen) (hc : c.size ≤ maxLen) (hd : d.size ≤ maxLen) {B : Nat} {aw ab : Addr} {w : World} (hG : DGlob B aw ab w) :
    Calls Tryd.prog 13 #[.string a, .string b, .string c, .string d] w fun e w' => e = .returned (.bool true) ∧ Below w.heap.size w w' := by
  have HG := Lib.hid hG
  have HA := Lib.hid ha
  have HB' := Lib.hid hb
  have HC := Lib.hid hc
  have HD := Lib.hid hd
  have l0 := front_300 a
  have l1 := front_300 b
  have l2 := front_300 c
  have l3 := front_300 d
  clear hG ha hb hc hd
  go_enter Tryd.func13, Tryd.ntmps13
  go_wp2_with fail
  refine (dshown_any HG.out).mono ?_
  rintro e w1 ⟨rfl, hb1⟩
  have HB1 := Lib.hid hb1
  clear hb1
  go_wp2_with fail
  refine (dcut_any a HA.out _).mono ?_
  rintro e w' ⟨rfl, rfl⟩
  obtain ⟨fa, hfa⟩ : ∃ x, front a 300 = x := ⟨_, rfl⟩
  rw [hfa] at l0 ⊢
  clear hfa HA
  go_wp2_with fail
  refine (dcut_any b HB'.out _).mono ?_
  rintro e w' ⟨rfl, rfl⟩
  obtain ⟨fb, hfb⟩ : ∃ x, front b 300 = x := ⟨_, rfl⟩
  rw [hfb] at l1 ⊢
  clear hfb HB'
  go_wp2_with fail
  refine (dcut_any c HC.out _).mono ?_
  rintro e w' ⟨rfl, rfl⟩
  obtain ⟨fc, hfc⟩ : ∃ x, front c 300 = x := ⟨_, rfl⟩
  rw [hfc] at l2 ⊢
  clear hfc HC
  go_wp2_with fail
  refine (dcut_any d HD.out _).mono ?_
  rintro e w' ⟨rfl, rfl⟩
  obtain ⟨fd, hfd⟩ : ∃ x, front d 300 = x := ⟨_, rfl⟩
  rw [hfd] at l3 ⊢
  clear hfd HD
  go_wp2_with fail
  have la : (fa.size : Int) ≤ 8388608 := by omega
  have lb : (fb.size : Int) ≤ 8388608 := by omega
  have lc : (fc.size : Int) ≤ 8388608 := by omega
  have ld : (fd.size : Int) ≤ 8388608 := by omega
  have lac : fa.size + fc.size ≤ 9223372036854775807 := by omega
  have lbd : fb.size + fd.size ≤ 9223372036854775807 := by omega
  obtain ⟨sx, hsx⟩ : ∃ s, shaBytes (fa.data.toList ++ fc.data.toList) = s := ⟨_, rfl⟩
  obtain ⟨sy, hsy⟩ : ∃ s, shaBytes (fb.data.toList ++ fd.data.toList) = s := ⟨_, rfl⟩
  have HSX := Lib.hid hsx
  have HSY := Lib.hid hsy
  clear hsx hsy
  refine (new_any _).mono ?_
  rintro e w2 ⟨x, rfl, hx, hrx, hb2⟩
  have hbx : w.heap.size ≤ x := Nat.le_trans HB1.out.size hx
  have X2 := Lib.hid (hasher_new hrx)
  have hx2 : x < w2.heap.size := lt_of_heap hrx
  have HB2 := Lib.hid (HB1.out.trans (hb2.mono HB1.out.size))
  clear hrx hb2
  go_wp2_with fail
  refine (new_any _).mono ?_
  rintro e w3 ⟨y, rfl, hy, hry, hb3⟩
  have hby : w.heap.size ≤ y := Nat.le_trans HB2.out.size hy
  have hxy : x ≠ y := by omega
  have X3 := Lib.hid (X2.out.keep hb3)
  have Y3 := Lib.hid (hasher_new hry)
  have HB3 := Lib.hid (HB2.out.trans (hb3.mono HB2.out.size))
  clear hry hb3 X2
  go_wp2_with fail
  refine (write_ok (HG.out.glob.below (HB3.out.mono HG.out.glob.size)) x (Nat.le_trans HG.out.glob.size hbx) _ fa X3.out (by simp; omega)).mono ?_
  rintro e w4 ⟨rfl, hm, hf⟩
  have Y4 := Lib.hid (Y3.out.other X3.out hxy.symm hf)
  have X4 := Lib.hid hm
  have HB4 := Lib.hid (HB3.out.trans (hf.to_below HB3.out.size (by omega)))
  clear hm hf X3 Y3
  go_wp2_with fail
  refine (write_ok (HG.out.glob.below (HB4.out.mono HG.out.glob.size)) y (Nat.le_trans HG.out.glob.size hby) _ fb Y4.out (by simp; omega)).mono ?_
  rintro e w5 ⟨rfl, hm, hf⟩
  have X5 := Lib.hid (X4.out.other Y4.out hxy hf)
  have Y5 := Lib.hid hm
  have HB5 := Lib.hid (HB4.out.trans (hf.to_below HB4.out.size (by omega)))
  clear hm hf X4 Y4
  go_wp2_with fail
  refine (write_ok (HG.out.glob.below (HB5.out.mono HG.out.glob.size)) x (Nat.le_trans HG.out.glob.size hbx) _ fc X5.out (by simp; omega)).mono ?_
  rintro e w6 ⟨rfl, hm, hf⟩
  have Y6 := Lib.hid (Y5.out.other X5.out hxy.symm hf)
  have X6 := Lib.hid hm
  have HB6 := Lib.hid (HB5.out.trans (hf.to_below HB5.out.size (by omega)))
  clear hm hf X5 Y5
  go_wp2_with fail
  refine (write_ok (HG.out.glob.below (HB6.out.mono HG.out.glob.size)) y (Nat.le_trans HG.out.glob.size hby) _ fd Y6.out (by simp; omega)).mono ?_
  rintro e w7 ⟨rfl, hm, hf⟩
  have X7 := Lib.hid (X6.out.other Y6.out hxy hf)
  have Y7 := Lib.hid hm
  have HB7 := Lib.hid (HB6.out.trans (hf.to_below HB6.out.size (by omega)))
  clear hm hf X6 Y6
  go_wp2_with fail
  refine (dsum_ok (HG.out.glob.below (HB7.out.mono HG.out.glob.size)) (fa ++ fc) (by rw [ByteArray.size_append]; omega)).mono ?_
  rintro e w8 ⟨rfl, hb⟩
  rw [append_list, HSX.out]
  have X8 := Lib.hid (X7.out.keep hb)
  have Y8 := Lib.hid (Y7.out.keep hb)
  have HB8 := Lib.hid (HB7.out.trans (hb.mono HB7.out.size))
  clear hb X7 Y7
  go_wp2_with fail
  refine (dsum_ok (HG.out.glob.below (HB8.out.mono HG.out.glob.size)) (fb ++ fd) (by rw [ByteArray.size_append]; omega)).mono ?_
  rintro e w9 ⟨rfl, hb⟩
  rw [append_list, HSY.out]
  have X9 := Lib.hid (X8.out.keep hb)
  have Y9 := Lib.hid (Y8.out.keep hb)
  have HB9 := Lib.hid (HB8.out.trans (hb.mono HB8.out.size))
  clear hb X8 Y8
  go_wp2_with fail
  refine (hsum_any (HG.out.glob.below (HB9.out.mono HG.out.glob.size)) x (Nat.le_trans HG.out.glob.size hbx) _ X9.out (by simp; omega)).mono ?_
  rintro e w10 ⟨rfl, hm, hf⟩
  rw [List.nil_append, HSX.out]
  have Y10 := Lib.hid (Y9.out.other X9.out hxy.symm hf)
  have X10 := Lib.hid hm
  have HB10 := Lib.hid (HB9.out.trans (hf.to_below HB9.out.size (by omega)))
  clear hm hf X9 Y9
  go_wp2_with fail
  refine (hsum_any (HG.out.glob.below (HB10.out.mono HG.out.glob.size)) y (Nat.le_trans HG.out.glob.size hby) _ Y10.out (by simp; omega)).mono ?_
  rintro e w11 ⟨rfl, hm, hf⟩
  rw [List.nil_append, HSY.out]
  have X11 := Lib.hid (X10.out.other Y10.out hxy hf)
  have Y11 := Lib.hid hm
  have HB11 := Lib.hid (HB10.out.trans (hf.to_below HB10.out.size (by omega)))
  clear hm hf X10 Y10
  go_wp2_with fail
  go_ret
  exact ⟨rfl, HB11.out⟩
end Go.Proofs.YtfafidholldjlaaDoor
