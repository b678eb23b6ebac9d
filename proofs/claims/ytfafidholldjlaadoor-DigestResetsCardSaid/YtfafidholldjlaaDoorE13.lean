/- The head of the Digest laws: a sum is known. -/
import Derived.Test.YtfafidholldjlaaDoorE12
import Derived.Test.YtfafidholldjlaaDoorAb2
set_option linter.unusedVariables false
set_option linter.unusedSimpArgs false
namespace Go.Proofs.YtfafidholldjlaaDoor
open Go.RowKit
/-- What the listed variables hold, errors.errorType among them. -/
structure DGlob (B : Nat) (aw ab : Addr) (w : World) : Prop where
  glob : Glob B aw ab w
  et : w.cell? ⟨4, 0, none⟩ = some (.iface 157 (.agg #[.pointer (some ⟨6, 67, none⟩)]))
theorem DGlob.below {B : Nat} {aw ab : Addr} {w w' : World} (h : DGlob B aw ab w) (hb : Below B w w') : DGlob B aw ab w' :=
  ⟨h.glob.below hb, (hb.cell (p := ⟨4, 0, none⟩) (show (4 : Nat) < B by have := h.glob.six; omega)).trans h.et⟩
theorem DGlob.four {B : Nat} {aw ab : Addr} {w : World} (h : DGlob B aw ab w) : 4 < w.heap.size := by have := h.glob.pos; omega
theorem sha_abc_front : (shaBytes [97, 98, 99]).extract 0 4 = ⟨#[186, 120, 22, 191]⟩ := by
  unfold shaBytes
  rw [Sha.sum_abc]
  rfl
theorem sha_abc_ab : ((shaBytes [97, 98]).toList == (shaBytes [97, 98, 99]).toList) = false := by
  rw [ByteArray.toList_eq, ByteArray.toList_eq]
  unfold shaBytes
  rw [Sha.sum_abc, Sha.sum_ab]
  rfl
set_option maxRecDepth 100000 in
set_option maxHeartbeats 1000000 in
theorem dshown_any {B : Nat} {aw ab : Addr} {w : World} (hG : DGlob B aw ab w) : Calls Tryd.prog 36 #[] w fun e w' => e = .returned (.bool true) ∧ Below w.heap.size w w' := by
  have HG := Lib.hid hG
  obtain ⟨b3, hb3⟩ : ∃ b, shaBytes [97, 98, 99] = b := ⟨_, rfl⟩
  obtain ⟨b2, hb2⟩ : ∃ b, shaBytes [97, 98] = b := ⟨_, rfl⟩
  have hs3 : b3.size = 32 := by rw [← hb3]; exact shaBytes_size _
  have hx3 : b3.extract 0 4 = ⟨#[186, 120, 22, 191]⟩ := by rw [← hb3]; exact sha_abc_front
  have hne : (b2.toList == b3.toList) = false := by rw [← hb3, ← hb2]; exact sha_abc_ab
  have H3 := Lib.hid hb3
  have H2 := Lib.hid hb2
  have HS3 := Lib.hid hs3
  have HX3 := Lib.hid hx3
  have HNE := Lib.hid hne
  have HB : Hid (Below w.heap.size w w) := Lib.hid (Below.refl _ _)
  clear hG hb3 hb2 hs3 hx3 hne
  go_enter Tryd.func36, Tryd.ntmps36
  go_wp2_with fail
  refine (dsum_ok HG.out.glob ⟨#[97, 98, 99]⟩ (by decide)).mono ?_
  rintro e w1 ⟨rfl, hb1⟩
  rw [show (⟨#[97, 98, 99]⟩ : ByteArray).data.toList = [97, 98, 99] from rfl, H3.out]
  have HB1 := Lib.hid hb1
  clear hb1 HB
  go_wp2_with fail
  refine (new_any _).mono ?_
  rintro e w2 ⟨h, rfl, hh, hr, hb2⟩
  have hbh : w.heap.size ≤ h := Nat.le_trans HB1.out.size hh
  have HN := Lib.hid (hasher_new hr)
  have HB2 := Lib.hid (HB1.out.trans (hb2.mono HB1.out.size))
  clear hr hb2
  go_wp2_with fail
  refine (write_ok (HG.out.glob.below (HB2.out.mono HG.out.glob.size)) h (Nat.le_trans HG.out.glob.size hbh) [] ⟨#[97, 98]⟩ HN.out (by decide)).mono ?_
  rintro e w3 ⟨rfl, hm3, hf3⟩
  have HM3 : Hid (HasherAt w3 h [97, 98]) := Lib.hid hm3
  have HB3 := Lib.hid (HB2.out.trans (hf3.to_below HB2.out.size (by omega)))
  clear hm3 hf3
  go_wp2_with fail
  refine (hsum_any (HG.out.glob.below (HB3.out.mono HG.out.glob.size)) h (Nat.le_trans HG.out.glob.size hbh) _ HM3.out (by decide)).mono ?_
  rintro e w4 ⟨rfl, hm4, hf4⟩
  rw [H2.out]
  have HM4 := Lib.hid hm4
  have HB4 := Lib.hid (HB3.out.trans (hf4.to_below HB3.out.size (by omega)))
  clear hm4 hf4
  go_wp2_with fail
  refine (write_ok (HG.out.glob.below (HB4.out.mono HG.out.glob.size)) h (Nat.le_trans HG.out.glob.size hbh) [97, 98] ⟨#[99]⟩ HM4.out (by decide)).mono ?_
  rintro e w5 ⟨rfl, hm5, hf5⟩
  have HM5 : Hid (HasherAt w5 h [97, 98, 99]) := Lib.hid hm5
  have HB5 := Lib.hid (HB4.out.trans (hf5.to_below HB4.out.size (by omega)))
  clear hm5 hf5
  go_wp2_with fail
  refine (hsum_any (HG.out.glob.below (HB5.out.mono HG.out.glob.size)) h (Nat.le_trans HG.out.glob.size hbh) _ HM5.out (by decide)).mono ?_
  rintro e w6 ⟨rfl, hm6, hf6⟩
  rw [H3.out]
  have HM6 := Lib.hid hm6
  have HB6 := Lib.hid (HB5.out.trans (hf6.to_below HB5.out.size (by omega)))
  clear hm6 hf6
  go_wp2_with fail
  refine (endOk_any 55 (by decide) _).mono ?_
  rintro e w7 ⟨rfl, hb7⟩
  have hm7 : HasherAt w7 h [97, 98, 99] := by
    obtain ⟨v, r1, r2⟩ := HM6.out
    exact ⟨v, (hb7.block h (lt_of_heap r1)).trans r1, r2.far (Far.of_below hb7 _)⟩
  have HM7 := Lib.hid hm7
  have HB7 := Lib.hid (HB6.out.trans (hb7.mono HB6.out.size))
  have hz55 : (⟨(Sha.endOf 55).toArray⟩ : ByteArray).size = 9 := by rfl
  generalize (⟨(Sha.endOf 55).toArray⟩ : ByteArray) = e55 at hz55 ⊢
  have HZ := Lib.hid hz55
  clear hm7 hb7
  go_wp2_with fail
  refine (endBad_any 100001 (by decide) _ (HG.out.below (HB7.out.mono HG.out.glob.size)).et (HG.out.below (HB7.out.mono HG.out.glob.size)).four).mono ?_
  rintro e w8 ⟨rfl, hb8⟩
  have hm8 : HasherAt w8 h [97, 98, 99] := by
    obtain ⟨v, r1, r2⟩ := HM7.out
    exact ⟨v, (hb8.block h (lt_of_heap r1)).trans r1, r2.far (Far.of_below hb8 _)⟩
  have HM8 := Lib.hid hm8
  have HB8 := Lib.hid (HB7.out.trans (hb8.mono HB7.out.size))
  have hs3 := HS3.out
  have hx3 := HX3.out
  have hne := HNE.out
  clear hm8 hb8
  go_wp2_with fail
  obtain ⟨v, r1, r2⟩ := HM8.out
  have R1 := Lib.hid r1
  clear r1 r2 hs3 hx3 hne hz55
  refine (len_any h v _ _ _ R1.out).mono ?_
  rintro e w9 ⟨rfl, rfl⟩
  have hs3 := HS3.out
  have hx3 := HX3.out
  have hne := HNE.out
  have hz55 := HZ.out
  have hl3 : ((([97, 98, 99] : List UInt8).length : Nat) : Int) = 3 := rfl
  rw [hl3]
  clear hl3
  go_wp2_with fail
  go_ret
  exact ⟨rfl, HB8.out⟩
end Go.Proofs.YtfafidholldjlaaDoor
