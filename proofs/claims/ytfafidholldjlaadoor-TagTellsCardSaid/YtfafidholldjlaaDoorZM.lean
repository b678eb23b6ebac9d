/- HMAC over SHA-256 in plain Lean; no program in sight. -/
import Derived.Test.YtfafidholldjlaaDoorZK
import Derived.Test.YtfafidholldjlaaDoorZB
import Derived.Test.YtfafidholldjlaaDoorZL
import Derived.Test.YtfafidholldjlaaDoorZE
import Derived.Deep.RegionHeld3
import Derived.Deep.AppendLies
import Derived.BigRegion
set_option linter.unusedVariables false
set_option linter.unusedSimpArgs false
namespace Sha
open Go.Proofs.YtfafidholldjlaaDoor (stBytes wordBytes)
/-- A message's sum, as a list of bytes. -/
def digestOf (m : List UInt8) : List UInt8 := stBytes (sumOf m)
theorem digestOf_length (m : List UInt8) : (digestOf m).length = 32 := by simp [digestOf, stBytes, wordBytes]
/-- A key of at most sixty-four bytes, as a whole block. -/
def padded (k : List UInt8) : List UInt8 := k ++ List.replicate (64 - k.length) 0
theorem padded_length (k : List UInt8) (h : k.length ≤ 64) : (padded k).length = 64 := by simp [padded]; omega
/-- Each byte of it mixed with another one. -/
def mixed (k : List UInt8) (c : UInt8) : List UInt8 := (padded k).map (· ^^^ c)
theorem mixed_length (k : List UInt8) (c : UInt8) (h : k.length ≤ 64) : (mixed k c).length = 64 := by rw [mixed, List.length_map, padded_length k h]
/-- A text's key. -/
def keyOf (k : List UInt8) : List UInt8 := if 64 < k.length then digestOf k else k
theorem keyOf_length (k : List UInt8) : (keyOf k).length ≤ 64 := by
  unfold keyOf
  split
  · rw [digestOf_length]; decide
  · omega
def inOf (k s : List UInt8) : List UInt8 := digestOf (mixed k 0x36 ++ s)
/-- A text's tag. -/
def hmac (k s : List UInt8) : List UInt8 := digestOf (mixed (keyOf k) 0x5c ++ inOf (keyOf k) s)
theorem hmac_length (k s : List UInt8) : (hmac k s).length = 32 := digestOf_length _
theorem sum_two (m : List UInt8) (l1 l2 : List Nat) (h : ((m ++ endOf m.length).map UInt8.toNat) = l1 ++ l2) (h1 : l1.length = 64) (h2 : l2.length = 64) : sumOf m = (St.first.compress (fun i => l1.getD i 0)).compress (fun i => l2.getD i 0) := by
  have hlen : (m ++ endOf m.length).length = 128 := by rw [← List.length_map (f := UInt8.toNat), h, List.length_append, h1, h2]
  have hb : ∀ i, i < 128 → byteOf (m ++ endOf m.length) i = (l1 ++ l2).getD i 0 := by
    intro i hi
    have hi' : i < (m ++ endOf m.length).length := by omega
    unfold byteOf
    rw [← h, List.getD_eq_getElem?_getD, List.getD_eq_getElem?_getD, List.getElem?_map, List.getElem?_eq_getElem hi']
    rfl
  unfold sumOf
  rw [hlen]
  show ((St.first.after (m ++ endOf m.length) 0).compress _).compress _ = _
  have e1 : (St.first.after (m ++ endOf m.length) 0).compress (fun i => byteOf (m ++ endOf m.length) (64 * 0 + i)) = St.first.compress (fun i => l1.getD i 0) := by
    refine St.compress_congr _ (fun i hi => ?_)
    rw [Nat.mul_zero, Nat.zero_add, hb i (by omega), List.getD_eq_getElem?_getD, List.getD_eq_getElem?_getD, List.getElem?_append_left (by omega)]
  rw [e1]
  refine St.compress_congr _ (fun i hi => ?_)
  show byteOf _ (64 * (0 + 1) + i) = _
  rw [hb _ (by omega), List.getD_eq_getElem?_getD, List.getD_eq_getElem?_getD, List.getElem?_append_right (by omega), h1]
  congr 2
  omega
end Sha
/- The tag of a known text under a known key, evaluated word by word. -/
set_option linter.unusedVariables false
set_option linter.unusedSimpArgs false
namespace Sha.J1
def l : List Nat := [124, 83, 80, 83, 54, 54, 54, 54, 54, 54, 54, 54, 54, 54, 54, 54, 54, 54, 54, 54, 54, 54, 54, 54, 54, 54, 54, 54, 54, 54, 54, 54, 54, 54, 54, 54, 54, 54, 54, 54, 54, 54, 54, 54, 54, 54, 54, 54, 54, 54, 54, 54, 54, 54, 54, 54, 54, 54, 54, 54, 54, 54, 54, 54]
def tb (i : Nat) : Nat := l.getD i 0
def s0 : St := ⟨1779033703, 3144134277, 1013904242, 2773480762, 1359893119, 2600822924, 528734635, 1541459225⟩
theorem w0 : word tb 0 = 2085834835 := rfl
theorem w1 : word tb 1 = 909522486 := rfl
theorem w2 : word tb 2 = 909522486 := rfl
theorem w3 : word tb 3 = 909522486 := rfl
theorem w4 : word tb 4 = 909522486 := rfl
theorem w5 : word tb 5 = 909522486 := rfl
theorem w6 : word tb 6 = 909522486 := rfl
theorem w7 : word tb 7 = 909522486 := rfl
theorem w8 : word tb 8 = 909522486 := rfl
theorem w9 : word tb 9 = 909522486 := rfl
theorem w10 : word tb 10 = 909522486 := rfl
theorem w11 : word tb 11 = 909522486 := rfl
theorem w12 : word tb 12 = 909522486 := rfl
theorem w13 : word tb 13 = 909522486 := rfl
theorem w14 : word tb 14 = 909522486 := rfl
theorem w15 : word tb 15 = 909522486 := rfl
theorem w16 : word tb 16 = 2004942336 := (word_step tb 0 w0 w1 w9 w14).trans rfl
theorem w17 : word tb 17 = 828629987 := (word_step tb 1 w1 w2 w10 w15).trans rfl
theorem w18 : word tb 18 = 3027331234 := (word_step tb 2 w2 w3 w11 w16).trans rfl
theorem w19 : word tb 19 = 3776264696 := (word_step tb 3 w3 w4 w12 w17).trans rfl
theorem w20 : word tb 20 = 3975914623 := (word_step tb 4 w4 w5 w13 w18).trans rfl
theorem w21 : word tb 21 = 2408496505 := (word_step tb 5 w5 w6 w14 w19).trans rfl
theorem w22 : word tb 22 = 4196321438 := (word_step tb 6 w6 w7 w15 w20).trans rfl
theorem w23 : word tb 23 = 504262902 := (word_step tb 7 w7 w8 w16 w21).trans rfl
theorem w24 : word tb 24 = 203646782 := (word_step tb 8 w8 w9 w17 w22).trans rfl
theorem w25 : word tb 25 = 3358659929 := (word_step tb 9 w9 w10 w18 w23).trans rfl
theorem w26 : word tb 26 = 3723388577 := (word_step tb 10 w10 w11 w19 w24).trans rfl
theorem w27 : word tb 27 = 2995704631 := (word_step tb 11 w11 w12 w20 w25).trans rfl
theorem w28 : word tb 28 = 2896153001 := (word_step tb 12 w12 w13 w21 w26).trans rfl
theorem w29 : word tb 29 = 3410866845 := (word_step tb 13 w13 w14 w22 w27).trans rfl
theorem w30 : word tb 30 = 1496748673 := (word_step tb 14 w14 w15 w23 w28).trans rfl
theorem w31 : word tb 31 = 3811062003 := (word_step tb 15 w15 w16 w24 w29).trans rfl
theorem w32 : word tb 32 = 326063445 := (word_step tb 16 w16 w17 w25 w30).trans rfl
theorem w33 : word tb 33 = 931132762 := (word_step tb 17 w17 w18 w26 w31).trans rfl
theorem w34 : word tb 34 = 1252253937 := (word_step tb 18 w18 w19 w27 w32).trans rfl
theorem w35 : word tb 35 = 2635726663 := (word_step tb 19 w19 w20 w28 w33).trans rfl
theorem w36 : word tb 36 = 2456692047 := (word_step tb 20 w20 w21 w29 w34).trans rfl
theorem w37 : word tb 37 = 969024847 := (word_step tb 21 w21 w22 w30 w35).trans rfl
theorem w38 : word tb 38 = 657584128 := (word_step tb 22 w22 w23 w31 w36).trans rfl
theorem w39 : word tb 39 = 735148732 := (word_step tb 23 w23 w24 w32 w37).trans rfl
theorem w40 : word tb 40 = 4184697383 := (word_step tb 24 w24 w25 w33 w38).trans rfl
theorem w41 : word tb 41 = 1720107640 := (word_step tb 25 w25 w26 w34 w39).trans rfl
theorem w42 : word tb 42 = 1634396684 := (word_step tb 26 w26 w27 w35 w40).trans rfl
theorem w43 : word tb 43 = 3003663402 := (word_step tb 27 w27 w28 w36 w41).trans rfl
theorem w44 : word tb 44 = 1561998591 := (word_step tb 28 w28 w29 w37 w42).trans rfl
theorem w45 : word tb 45 = 3396426185 := (word_step tb 29 w29 w30 w38 w43).trans rfl
theorem w46 : word tb 46 = 3651059605 := (word_step tb 30 w30 w31 w39 w44).trans rfl
theorem w47 : word tb 47 = 3785575445 := (word_step tb 31 w31 w32 w40 w45).trans rfl
theorem w48 : word tb 48 = 1373361342 := (word_step tb 32 w32 w33 w41 w46).trans rfl
theorem w49 : word tb 49 = 2090364179 := (word_step tb 33 w33 w34 w42 w47).trans rfl
theorem w50 : word tb 50 = 1909564558 := (word_step tb 34 w34 w35 w43 w48).trans rfl
theorem w51 : word tb 51 = 967059586 := (word_step tb 35 w35 w36 w44 w49).trans rfl
theorem w52 : word tb 52 = 1405227110 := (word_step tb 36 w36 w37 w45 w50).trans rfl
theorem w53 : word tb 53 = 493382652 := (word_step tb 37 w37 w38 w46 w51).trans rfl
theorem w54 : word tb 54 = 1988286088 := (word_step tb 38 w38 w39 w47 w52).trans rfl
theorem w55 : word tb 55 = 3230314568 := (word_step tb 39 w39 w40 w48 w53).trans rfl
theorem w56 : word tb 56 = 4094834888 := (word_step tb 40 w40 w41 w49 w54).trans rfl
theorem w57 : word tb 57 = 2497860301 := (word_step tb 41 w41 w42 w50 w55).trans rfl
theorem w58 : word tb 58 = 1214064482 := (word_step tb 42 w42 w43 w51 w56).trans rfl
theorem w59 : word tb 59 = 3792386745 := (word_step tb 43 w43 w44 w52 w57).trans rfl
theorem w60 : word tb 60 = 2390414973 := (word_step tb 44 w44 w45 w53 w58).trans rfl
theorem w61 : word tb 61 = 3666681029 := (word_step tb 45 w45 w46 w54 w59).trans rfl
theorem w62 : word tb 62 = 2968432534 := (word_step tb 46 w46 w47 w55 w60).trans rfl
theorem w63 : word tb 63 = 2268713845 := (word_step tb 47 w47 w48 w56 w61).trans rfl
theorem u0 : s0.rounds tb 0 = ⟨1779033703, 3144134277, 1013904242, 2773480762, 1359893119, 2600822924, 528734635, 1541459225⟩ := rfl
theorem u1 : s0.rounds tb 1 = ⟨2019285152, 1779033703, 3144134277, 1013904242, 354104053, 1359893119, 2600822924, 528734635⟩ := (round_step _ tb 0 u0 w0).trans rfl
theorem u2 : s0.rounds tb 2 = ⟨2553481170, 2019285152, 1779033703, 3144134277, 2782812040, 354104053, 1359893119, 2600822924⟩ := (round_step _ tb 1 u1 w1).trans rfl
theorem u3 : s0.rounds tb 3 = ⟨3848389948, 2553481170, 2019285152, 1779033703, 3559285459, 2782812040, 354104053, 1359893119⟩ := (round_step _ tb 2 u2 w2).trans rfl
theorem u4 : s0.rounds tb 4 = ⟨2354354991, 3848389948, 2553481170, 2019285152, 1715409426, 3559285459, 2782812040, 354104053⟩ := (round_step _ tb 3 u3 w3).trans rfl
theorem u5 : s0.rounds tb 5 = ⟨1399007061, 2354354991, 3848389948, 2553481170, 3611786841, 1715409426, 3559285459, 2782812040⟩ := (round_step _ tb 4 u4 w4).trans rfl
theorem u6 : s0.rounds tb 6 = ⟨878058236, 1399007061, 2354354991, 3848389948, 607687696, 3611786841, 1715409426, 3559285459⟩ := (round_step _ tb 5 u5 w5).trans rfl
theorem u7 : s0.rounds tb 7 = ⟨1484230506, 878058236, 1399007061, 2354354991, 2799920203, 607687696, 3611786841, 1715409426⟩ := (round_step _ tb 6 u6 w6).trans rfl
theorem u8 : s0.rounds tb 8 = ⟨385667550, 1484230506, 878058236, 1399007061, 526898314, 2799920203, 607687696, 3611786841⟩ := (round_step _ tb 7 u7 w7).trans rfl
theorem u9 : s0.rounds tb 9 = ⟨592736688, 385667550, 1484230506, 878058236, 1782055229, 526898314, 2799920203, 607687696⟩ := (round_step _ tb 8 u8 w8).trans rfl
theorem u10 : s0.rounds tb 10 = ⟨2967624574, 592736688, 385667550, 1484230506, 4264615486, 1782055229, 526898314, 2799920203⟩ := (round_step _ tb 9 u9 w9).trans rfl
theorem u11 : s0.rounds tb 11 = ⟨3265230883, 2967624574, 592736688, 385667550, 3917597313, 4264615486, 1782055229, 526898314⟩ := (round_step _ tb 10 u10 w10).trans rfl
theorem u12 : s0.rounds tb 12 = ⟨462523089, 3265230883, 2967624574, 592736688, 1130274180, 3917597313, 4264615486, 1782055229⟩ := (round_step _ tb 11 u11 w11).trans rfl
theorem u13 : s0.rounds tb 13 = ⟨133466094, 462523089, 3265230883, 2967624574, 1114481877, 1130274180, 3917597313, 4264615486⟩ := (round_step _ tb 12 u12 w12).trans rfl
theorem u14 : s0.rounds tb 14 = ⟨179197855, 133466094, 462523089, 3265230883, 1265140218, 1114481877, 1130274180, 3917597313⟩ := (round_step _ tb 13 u13 w13).trans rfl
theorem u15 : s0.rounds tb 15 = ⟨855186178, 179197855, 133466094, 462523089, 584470151, 1265140218, 1114481877, 1130274180⟩ := (round_step _ tb 14 u14 w14).trans rfl
theorem u16 : s0.rounds tb 16 = ⟨3634534323, 855186178, 179197855, 133466094, 1081356595, 584470151, 1265140218, 1114481877⟩ := (round_step _ tb 15 u15 w15).trans rfl
theorem u17 : s0.rounds tb 17 = ⟨1474993264, 3634534323, 855186178, 179197855, 2202819889, 1081356595, 584470151, 1265140218⟩ := (round_step _ tb 16 u16 w16).trans rfl
theorem u18 : s0.rounds tb 18 = ⟨40434081, 1474993264, 3634534323, 855186178, 1579342071, 2202819889, 1081356595, 584470151⟩ := (round_step _ tb 17 u17 w17).trans rfl
theorem u19 : s0.rounds tb 19 = ⟨1035749774, 40434081, 1474993264, 3634534323, 4015398329, 1579342071, 2202819889, 1081356595⟩ := (round_step _ tb 18 u18 w18).trans rfl
theorem u20 : s0.rounds tb 20 = ⟨3645928705, 1035749774, 40434081, 1474993264, 1741777821, 4015398329, 1579342071, 2202819889⟩ := (round_step _ tb 19 u19 w19).trans rfl
theorem u21 : s0.rounds tb 21 = ⟨3308356465, 3645928705, 1035749774, 40434081, 1679087034, 1741777821, 4015398329, 1579342071⟩ := (round_step _ tb 20 u20 w20).trans rfl
theorem u22 : s0.rounds tb 22 = ⟨103694582, 3308356465, 3645928705, 1035749774, 2123852626, 1679087034, 1741777821, 4015398329⟩ := (round_step _ tb 21 u21 w21).trans rfl
theorem u23 : s0.rounds tb 23 = ⟨400732953, 103694582, 3308356465, 3645928705, 1362510303, 2123852626, 1679087034, 1741777821⟩ := (round_step _ tb 22 u22 w22).trans rfl
theorem u24 : s0.rounds tb 24 = ⟨2912765507, 400732953, 103694582, 3308356465, 667861063, 1362510303, 2123852626, 1679087034⟩ := (round_step _ tb 23 u23 w23).trans rfl
theorem u25 : s0.rounds tb 25 = ⟨146493706, 2912765507, 400732953, 103694582, 433806940, 667861063, 1362510303, 2123852626⟩ := (round_step _ tb 24 u24 w24).trans rfl
theorem u26 : s0.rounds tb 26 = ⟨2083130818, 146493706, 2912765507, 400732953, 2372026867, 433806940, 667861063, 1362510303⟩ := (round_step _ tb 25 u25 w25).trans rfl
theorem u27 : s0.rounds tb 27 = ⟨3527745079, 2083130818, 146493706, 2912765507, 1681793086, 2372026867, 433806940, 667861063⟩ := (round_step _ tb 26 u26 w26).trans rfl
theorem u28 : s0.rounds tb 28 = ⟨40434203, 3527745079, 2083130818, 146493706, 1183062128, 1681793086, 2372026867, 433806940⟩ := (round_step _ tb 27 u27 w27).trans rfl
theorem u29 : s0.rounds tb 29 = ⟨3992112711, 40434203, 3527745079, 2083130818, 4036738934, 1183062128, 1681793086, 2372026867⟩ := (round_step _ tb 28 u28 w28).trans rfl
theorem u30 : s0.rounds tb 30 = ⟨4036691720, 3992112711, 40434203, 3527745079, 1743352579, 4036738934, 1183062128, 1681793086⟩ := (round_step _ tb 29 u29 w29).trans rfl
theorem u31 : s0.rounds tb 31 = ⟨126836662, 4036691720, 3992112711, 40434203, 2421967114, 1743352579, 4036738934, 1183062128⟩ := (round_step _ tb 30 u30 w30).trans rfl
theorem u32 : s0.rounds tb 32 = ⟨3936480436, 126836662, 4036691720, 3992112711, 3326239808, 2421967114, 1743352579, 4036738934⟩ := (round_step _ tb 31 u31 w31).trans rfl
theorem u33 : s0.rounds tb 33 = ⟨858300749, 3936480436, 126836662, 4036691720, 1708270168, 3326239808, 2421967114, 1743352579⟩ := (round_step _ tb 32 u32 w32).trans rfl
theorem u34 : s0.rounds tb 34 = ⟨1831748964, 858300749, 3936480436, 126836662, 1442371806, 1708270168, 3326239808, 2421967114⟩ := (round_step _ tb 33 u33 w33).trans rfl
theorem u35 : s0.rounds tb 35 = ⟨2207661732, 1831748964, 858300749, 3936480436, 2524925783, 1442371806, 1708270168, 3326239808⟩ := (round_step _ tb 34 u34 w34).trans rfl
theorem u36 : s0.rounds tb 36 = ⟨1745000593, 2207661732, 1831748964, 858300749, 2721799883, 2524925783, 1442371806, 1708270168⟩ := (round_step _ tb 35 u35 w35).trans rfl
theorem u37 : s0.rounds tb 37 = ⟨495589703, 1745000593, 2207661732, 1831748964, 1388509792, 2721799883, 2524925783, 1442371806⟩ := (round_step _ tb 36 u36 w36).trans rfl
theorem u38 : s0.rounds tb 38 = ⟨1734499034, 495589703, 1745000593, 2207661732, 2781811010, 1388509792, 2721799883, 2524925783⟩ := (round_step _ tb 37 u37 w37).trans rfl
theorem u39 : s0.rounds tb 39 = ⟨991193423, 1734499034, 495589703, 1745000593, 2336738023, 2781811010, 1388509792, 2721799883⟩ := (round_step _ tb 38 u38 w38).trans rfl
theorem u40 : s0.rounds tb 40 = ⟨2811990480, 991193423, 1734499034, 495589703, 4219589366, 2336738023, 2781811010, 1388509792⟩ := (round_step _ tb 39 u39 w39).trans rfl
theorem u41 : s0.rounds tb 41 = ⟨3025080618, 2811990480, 991193423, 1734499034, 3785504353, 4219589366, 2336738023, 2781811010⟩ := (round_step _ tb 40 u40 w40).trans rfl
theorem u42 : s0.rounds tb 42 = ⟨167346055, 3025080618, 2811990480, 991193423, 2721709108, 3785504353, 4219589366, 2336738023⟩ := (round_step _ tb 41 u41 w41).trans rfl
theorem u43 : s0.rounds tb 43 = ⟨1930710898, 167346055, 3025080618, 2811990480, 748002098, 2721709108, 3785504353, 4219589366⟩ := (round_step _ tb 42 u42 w42).trans rfl
theorem u44 : s0.rounds tb 44 = ⟨590161105, 1930710898, 167346055, 3025080618, 3808433357, 748002098, 2721709108, 3785504353⟩ := (round_step _ tb 43 u43 w43).trans rfl
theorem u45 : s0.rounds tb 45 = ⟨1557255917, 590161105, 1930710898, 167346055, 319972211, 3808433357, 748002098, 2721709108⟩ := (round_step _ tb 44 u44 w44).trans rfl
theorem u46 : s0.rounds tb 46 = ⟨3087266785, 1557255917, 590161105, 1930710898, 2816673329, 319972211, 3808433357, 748002098⟩ := (round_step _ tb 45 u45 w45).trans rfl
theorem u47 : s0.rounds tb 47 = ⟨1697758428, 3087266785, 1557255917, 590161105, 2709609318, 2816673329, 319972211, 3808433357⟩ := (round_step _ tb 46 u46 w46).trans rfl
theorem u48 : s0.rounds tb 48 = ⟨1963906996, 1697758428, 3087266785, 1557255917, 3805138538, 2709609318, 2816673329, 319972211⟩ := (round_step _ tb 47 u47 w47).trans rfl
theorem u49 : s0.rounds tb 49 = ⟨891905006, 1963906996, 1697758428, 3087266785, 2167961240, 3805138538, 2709609318, 2816673329⟩ := (round_step _ tb 48 u48 w48).trans rfl
theorem u50 : s0.rounds tb 50 = ⟨3175742126, 891905006, 1963906996, 1697758428, 3362762031, 2167961240, 3805138538, 2709609318⟩ := (round_step _ tb 49 u49 w49).trans rfl
theorem u51 : s0.rounds tb 51 = ⟨2636719084, 3175742126, 891905006, 1963906996, 1870905097, 3362762031, 2167961240, 3805138538⟩ := (round_step _ tb 50 u50 w50).trans rfl
theorem u52 : s0.rounds tb 52 = ⟨2020971306, 2636719084, 3175742126, 891905006, 2478437162, 1870905097, 3362762031, 2167961240⟩ := (round_step _ tb 51 u51 w51).trans rfl
theorem u53 : s0.rounds tb 53 = ⟨4230945454, 2020971306, 2636719084, 3175742126, 2733423719, 2478437162, 1870905097, 3362762031⟩ := (round_step _ tb 52 u52 w52).trans rfl
theorem u54 : s0.rounds tb 54 = ⟨985793319, 4230945454, 2020971306, 2636719084, 633884164, 2733423719, 2478437162, 1870905097⟩ := (round_step _ tb 53 u53 w53).trans rfl
theorem u55 : s0.rounds tb 55 = ⟨2159973521, 985793319, 4230945454, 2020971306, 3321551645, 633884164, 2733423719, 2478437162⟩ := (round_step _ tb 54 u54 w54).trans rfl
theorem u56 : s0.rounds tb 56 = ⟨3315750425, 2159973521, 985793319, 4230945454, 1182265290, 3321551645, 633884164, 2733423719⟩ := (round_step _ tb 55 u55 w55).trans rfl
theorem u57 : s0.rounds tb 57 = ⟨651242781, 3315750425, 2159973521, 985793319, 1499419192, 1182265290, 3321551645, 633884164⟩ := (round_step _ tb 56 u56 w56).trans rfl
theorem u58 : s0.rounds tb 58 = ⟨3970578249, 651242781, 3315750425, 2159973521, 1020337410, 1499419192, 1182265290, 3321551645⟩ := (round_step _ tb 57 u57 w57).trans rfl
theorem u59 : s0.rounds tb 59 = ⟨4230861550, 3970578249, 651242781, 3315750425, 781279541, 1020337410, 1499419192, 1182265290⟩ := (round_step _ tb 58 u58 w58).trans rfl
theorem u60 : s0.rounds tb 60 = ⟨2042147396, 4230861550, 3970578249, 651242781, 3011158763, 781279541, 1020337410, 1499419192⟩ := (round_step _ tb 59 u59 w59).trans rfl
theorem u61 : s0.rounds tb 61 = ⟨1631779028, 2042147396, 4230861550, 3970578249, 484868851, 3011158763, 781279541, 1020337410⟩ := (round_step _ tb 60 u60 w60).trans rfl
theorem u62 : s0.rounds tb 62 = ⟨497934937, 1631779028, 2042147396, 4230861550, 3156099383, 484868851, 3011158763, 781279541⟩ := (round_step _ tb 61 u61 w61).trans rfl
theorem u63 : s0.rounds tb 63 = ⟨282827954, 497934937, 1631779028, 2042147396, 2973076413, 3156099383, 484868851, 3011158763⟩ := (round_step _ tb 62 u62 w62).trans rfl
theorem u64 : s0.rounds tb 64 = ⟨4216570259, 282827954, 497934937, 1631779028, 1399574868, 2973076413, 3156099383, 484868851⟩ := (round_step _ tb 63 u63 w63).trans rfl
theorem done : s0.compress tb = ⟨1700636666, 3426962231, 1511839179, 110292494, 2759467987, 1278932041, 3684834018, 2026328076⟩ := by
  unfold St.compress
  rw [u64]
  rfl
end Sha.J1
namespace Sha.J2
def l : List Nat := [119, 104, 97, 116, 32, 100, 111, 32, 121, 97, 32, 119, 97, 110, 116, 32, 102, 111, 114, 32, 110, 111, 116, 104, 105, 110, 103, 63, 128, 0, 0, 0, 0, 0, 0, 0, 0, 0, 0, 0, 0, 0, 0, 0, 0, 0, 0, 0, 0, 0, 0, 0, 0, 0, 0, 0, 0, 0, 0, 0, 0, 0, 2, 224]
def tb (i : Nat) : Nat := l.getD i 0
def s0 : St := ⟨1700636666, 3426962231, 1511839179, 110292494, 2759467987, 1278932041, 3684834018, 2026328076⟩
theorem w0 : word tb 0 = 2003329396 := rfl
theorem w1 : word tb 1 = 543452960 := rfl
theorem w2 : word tb 2 = 2036408439 := rfl
theorem w3 : word tb 3 = 1634628640 := rfl
theorem w4 : word tb 4 = 1718579744 := rfl
theorem w5 : word tb 5 = 1852798056 := rfl
theorem w6 : word tb 6 = 1768843071 := rfl
theorem w7 : word tb 7 = 2147483648 := rfl
theorem w8 : word tb 8 = 0 := rfl
theorem w9 : word tb 9 = 0 := rfl
theorem w10 : word tb 10 = 0 := rfl
theorem w11 : word tb 11 = 0 := rfl
theorem w12 : word tb 12 = 0 := rfl
theorem w13 : word tb 13 = 0 := rfl
theorem w14 : word tb 14 = 0 := rfl
theorem w15 : word tb 15 = 736 := rfl
theorem w16 : word tb 16 = 3605835415 := (word_step tb 0 w0 w1 w9 w14).trans rfl
theorem w17 : word tb 17 = 3411257142 := (word_step tb 1 w1 w2 w10 w15).trans rfl
theorem w18 : word tb 18 = 234149166 := (word_step tb 2 w2 w3 w11 w16).trans rfl
theorem w19 : word tb 19 = 2571568517 := (word_step tb 3 w3 w4 w12 w17).trans rfl
theorem w20 : word tb 20 = 1454135439 := (word_step tb 4 w4 w5 w13 w18).trans rfl
theorem w21 : word tb 21 = 3136580900 := (word_step tb 5 w5 w6 w14 w19).trans rfl
theorem w22 : word tb 22 = 565343412 := (word_step tb 6 w6 w7 w15 w20).trans rfl
theorem w23 : word tb 23 = 302327254 := (word_step tb 7 w7 w8 w16 w21).trans rfl
theorem w24 : word tb 24 = 1075355560 := (word_step tb 8 w8 w9 w17 w22).trans rfl
theorem w25 : word tb 25 = 1145708345 := (word_step tb 9 w9 w10 w18 w23).trans rfl
theorem w26 : word tb 26 = 4118295469 := (word_step tb 10 w10 w11 w19 w24).trans rfl
theorem w27 : word tb 27 = 2736189626 := (word_step tb 11 w11 w12 w20 w25).trans rfl
theorem w28 : word tb 28 = 3667035971 := (word_step tb 12 w12 w13 w21 w26).trans rfl
theorem w29 : word tb 29 = 3356833033 := (word_step tb 13 w13 w14 w22 w27).trans rfl
theorem w30 : word tb 30 = 3862714601 := (word_step tb 14 w14 w15 w23 w28).trans rfl
theorem w31 : word tb 31 = 2600875009 := (word_step tb 15 w15 w16 w24 w29).trans rfl
theorem w32 : word tb 32 = 1605922843 := (word_step tb 16 w16 w17 w25 w30).trans rfl
theorem w33 : word tb 33 = 107023043 := (word_step tb 17 w17 w18 w26 w31).trans rfl
theorem w34 : word tb 34 = 3231709449 := (word_step tb 18 w18 w19 w27 w32).trans rfl
theorem w35 : word tb 35 = 443354769 := (word_step tb 19 w19 w20 w28 w33).trans rfl
theorem w36 : word tb 36 = 1740232957 := (word_step tb 20 w20 w21 w29 w34).trans rfl
theorem w37 : word tb 37 = 3106217304 := (word_step tb 21 w21 w22 w30 w35).trans rfl
theorem w38 : word tb 38 = 2067973250 := (word_step tb 22 w22 w23 w31 w36).trans rfl
theorem w39 : word tb 39 = 508545966 := (word_step tb 23 w23 w24 w32 w37).trans rfl
theorem w40 : word tb 40 = 2132333486 := (word_step tb 24 w24 w25 w33 w38).trans rfl
theorem w41 : word tb 41 = 1799226026 := (word_step tb 25 w25 w26 w34 w39).trans rfl
theorem w42 : word tb 42 = 1621939148 := (word_step tb 26 w26 w27 w35 w40).trans rfl
theorem w43 : word tb 43 = 153289841 := (word_step tb 27 w27 w28 w36 w41).trans rfl
theorem w44 : word tb 44 = 3473947360 := (word_step tb 28 w28 w29 w37 w42).trans rfl
theorem w45 : word tb 45 = 4282282274 := (word_step tb 29 w29 w30 w38 w43).trans rfl
theorem w46 : word tb 46 = 3154283300 := (word_step tb 30 w30 w31 w39 w44).trans rfl
theorem w47 : word tb 47 = 838377632 := (word_step tb 31 w31 w32 w40 w45).trans rfl
theorem w48 : word tb 48 = 2755681981 := (word_step tb 32 w32 w33 w41 w46).trans rfl
theorem w49 : word tb 49 = 2703683694 := (word_step tb 33 w33 w34 w42 w47).trans rfl
theorem w50 : word tb 50 = 1363194253 := (word_step tb 34 w34 w35 w43 w48).trans rfl
theorem w51 : word tb 51 = 261564348 := (word_step tb 35 w35 w36 w44 w49).trans rfl
theorem w52 : word tb 52 = 2531026075 := (word_step tb 36 w36 w37 w45 w50).trans rfl
theorem w53 : word tb 53 = 2802864181 := (word_step tb 37 w37 w38 w46 w51).trans rfl
theorem w54 : word tb 54 = 425022783 := (word_step tb 38 w38 w39 w47 w52).trans rfl
theorem w55 : word tb 55 = 1287422461 := (word_step tb 39 w39 w40 w48 w53).trans rfl
theorem w56 : word tb 56 = 4187563408 := (word_step tb 40 w40 w41 w49 w54).trans rfl
theorem w57 : word tb 57 = 762884373 := (word_step tb 41 w41 w42 w50 w55).trans rfl
theorem w58 : word tb 58 = 1219651084 := (word_step tb 42 w42 w43 w51 w56).trans rfl
theorem w59 : word tb 59 = 3311856440 := (word_step tb 43 w43 w44 w52 w57).trans rfl
theorem w60 : word tb 60 = 3158776308 := (word_step tb 44 w44 w45 w53 w58).trans rfl
theorem w61 : word tb 61 = 3180291448 := (word_step tb 45 w45 w46 w54 w59).trans rfl
theorem w62 : word tb 62 = 3877621433 := (word_step tb 46 w46 w47 w55 w60).trans rfl
theorem w63 : word tb 63 = 37606233 := (word_step tb 47 w47 w48 w56 w61).trans rfl
theorem u0 : s0.rounds tb 0 = ⟨1700636666, 3426962231, 1511839179, 110292494, 2759467987, 1278932041, 3684834018, 2026328076⟩ := rfl
theorem u1 : s0.rounds tb 1 = ⟨3101825555, 1700636666, 3426962231, 1511839179, 2734396832, 2759467987, 1278932041, 3684834018⟩ := (round_step _ tb 0 u0 w0).trans rfl
theorem u2 : s0.rounds tb 2 = ⟨1209904251, 3101825555, 1700636666, 3426962231, 4280969116, 2734396832, 2759467987, 1278932041⟩ := (round_step _ tb 1 u1 w1).trans rfl
theorem u3 : s0.rounds tb 3 = ⟨1660030541, 1209904251, 3101825555, 1700636666, 4285195318, 4280969116, 2734396832, 2759467987⟩ := (round_step _ tb 2 u2 w2).trans rfl
theorem u4 : s0.rounds tb 4 = ⟨596309698, 1660030541, 1209904251, 3101825555, 1023930073, 4285195318, 4280969116, 2734396832⟩ := (round_step _ tb 3 u3 w3).trans rfl
theorem u5 : s0.rounds tb 5 = ⟨4124367547, 596309698, 1660030541, 1209904251, 921935130, 1023930073, 4285195318, 4280969116⟩ := (round_step _ tb 4 u4 w4).trans rfl
theorem u6 : s0.rounds tb 6 = ⟨1451085303, 4124367547, 596309698, 1660030541, 3204981704, 921935130, 1023930073, 4285195318⟩ := (round_step _ tb 5 u5 w5).trans rfl
theorem u7 : s0.rounds tb 7 = ⟨3590962627, 1451085303, 4124367547, 596309698, 1946996563, 3204981704, 921935130, 1023930073⟩ := (round_step _ tb 6 u6 w6).trans rfl
theorem u8 : s0.rounds tb 8 = ⟨1422010988, 3590962627, 1451085303, 4124367547, 1686336214, 1946996563, 3204981704, 921935130⟩ := (round_step _ tb 7 u7 w7).trans rfl
theorem u9 : s0.rounds tb 9 = ⟨4130393443, 1422010988, 3590962627, 1451085303, 1187011678, 1686336214, 1946996563, 3204981704⟩ := (round_step _ tb 8 u8 w8).trans rfl
theorem u10 : s0.rounds tb 10 = ⟨79495906, 4130393443, 1422010988, 3590962627, 798234224, 1187011678, 1686336214, 1946996563⟩ := (round_step _ tb 9 u9 w9).trans rfl
theorem u11 : s0.rounds tb 11 = ⟨1515674711, 79495906, 4130393443, 1422010988, 2038178422, 798234224, 1187011678, 1686336214⟩ := (round_step _ tb 10 u10 w10).trans rfl
theorem u12 : s0.rounds tb 12 = ⟨3522418795, 1515674711, 79495906, 4130393443, 1730305454, 2038178422, 798234224, 1187011678⟩ := (round_step _ tb 11 u11 w11).trans rfl
theorem u13 : s0.rounds tb 13 = ⟨166503804, 3522418795, 1515674711, 79495906, 3068281785, 1730305454, 2038178422, 798234224⟩ := (round_step _ tb 12 u12 w12).trans rfl
theorem u14 : s0.rounds tb 14 = ⟨4119078549, 166503804, 3522418795, 1515674711, 87733979, 3068281785, 1730305454, 2038178422⟩ := (round_step _ tb 13 u13 w13).trans rfl
theorem u15 : s0.rounds tb 15 = ⟨3504548792, 4119078549, 166503804, 3522418795, 61760, 87733979, 3068281785, 1730305454⟩ := (round_step _ tb 14 u14 w14).trans rfl
theorem u16 : s0.rounds tb 16 = ⟨3209592646, 3504548792, 4119078549, 166503804, 3658318145, 61760, 87733979, 3068281785⟩ := (round_step _ tb 15 u15 w15).trans rfl
theorem u17 : s0.rounds tb 17 = ⟨51550774, 3209592646, 3504548792, 4119078549, 2870841535, 3658318145, 61760, 87733979⟩ := (round_step _ tb 16 u16 w16).trans rfl
theorem u18 : s0.rounds tb 18 = ⟨1615491656, 51550774, 3209592646, 3504548792, 2809132946, 2870841535, 3658318145, 61760⟩ := (round_step _ tb 17 u17 w17).trans rfl
theorem u19 : s0.rounds tb 19 = ⟨4007315968, 1615491656, 51550774, 3209592646, 4175084594, 2809132946, 2870841535, 3658318145⟩ := (round_step _ tb 18 u18 w18).trans rfl
theorem u20 : s0.rounds tb 20 = ⟨3196577785, 4007315968, 1615491656, 51550774, 451003730, 4175084594, 2809132946, 2870841535⟩ := (round_step _ tb 19 u19 w19).trans rfl
theorem u21 : s0.rounds tb 21 = ⟨3205172210, 3196577785, 4007315968, 1615491656, 2204031141, 451003730, 4175084594, 2809132946⟩ := (round_step _ tb 20 u20 w20).trans rfl
theorem u22 : s0.rounds tb 22 = ⟨4033858610, 3205172210, 3196577785, 4007315968, 3048571442, 2204031141, 451003730, 4175084594⟩ := (round_step _ tb 21 u21 w21).trans rfl
theorem u23 : s0.rounds tb 23 = ⟨2040571305, 4033858610, 3205172210, 3196577785, 1202643972, 3048571442, 2204031141, 451003730⟩ := (round_step _ tb 22 u22 w22).trans rfl
theorem u24 : s0.rounds tb 24 = ⟨1536829517, 2040571305, 4033858610, 3205172210, 792805643, 1202643972, 3048571442, 2204031141⟩ := (round_step _ tb 23 u23 w23).trans rfl
theorem u25 : s0.rounds tb 25 = ⟨2528838751, 1536829517, 2040571305, 4033858610, 1609433212, 792805643, 1202643972, 3048571442⟩ := (round_step _ tb 24 u24 w24).trans rfl
theorem u26 : s0.rounds tb 26 = ⟨1113847472, 2528838751, 1536829517, 2040571305, 2882966528, 1609433212, 792805643, 1202643972⟩ := (round_step _ tb 25 u25 w25).trans rfl
theorem u27 : s0.rounds tb 27 = ⟨3831297394, 1113847472, 2528838751, 1536829517, 3766634244, 2882966528, 1609433212, 792805643⟩ := (round_step _ tb 26 u26 w26).trans rfl
theorem u28 : s0.rounds tb 28 = ⟨732895684, 3831297394, 1113847472, 2528838751, 1601665397, 3766634244, 2882966528, 1609433212⟩ := (round_step _ tb 27 u27 w27).trans rfl
theorem u29 : s0.rounds tb 29 = ⟨4251673586, 732895684, 3831297394, 1113847472, 3104368314, 1601665397, 3766634244, 2882966528⟩ := (round_step _ tb 28 u28 w28).trans rfl
theorem u30 : s0.rounds tb 30 = ⟨1468564898, 4251673586, 732895684, 3831297394, 2671383054, 3104368314, 1601665397, 3766634244⟩ := (round_step _ tb 29 u29 w29).trans rfl
theorem u31 : s0.rounds tb 31 = ⟨2819460434, 1468564898, 4251673586, 732895684, 1910074480, 2671383054, 3104368314, 1601665397⟩ := (round_step _ tb 30 u30 w30).trans rfl
theorem u32 : s0.rounds tb 32 = ⟨1055633301, 2819460434, 1468564898, 4251673586, 1995299279, 1910074480, 2671383054, 3104368314⟩ := (round_step _ tb 31 u31 w31).trans rfl
theorem u33 : s0.rounds tb 33 = ⟨2305035990, 1055633301, 2819460434, 1468564898, 2862128371, 1995299279, 1910074480, 2671383054⟩ := (round_step _ tb 32 u32 w32).trans rfl
theorem u34 : s0.rounds tb 34 = ⟨1364533767, 2305035990, 1055633301, 2819460434, 3147433251, 2862128371, 1995299279, 1910074480⟩ := (round_step _ tb 33 u33 w33).trans rfl
theorem u35 : s0.rounds tb 35 = ⟨9193713, 1364533767, 2305035990, 1055633301, 4266444863, 3147433251, 2862128371, 1995299279⟩ := (round_step _ tb 34 u34 w34).trans rfl
theorem u36 : s0.rounds tb 36 = ⟨3042626767, 9193713, 1364533767, 2305035990, 3162087217, 4266444863, 3147433251, 2862128371⟩ := (round_step _ tb 35 u35 w35).trans rfl
theorem u37 : s0.rounds tb 37 = ⟨1151718143, 3042626767, 9193713, 1364533767, 3700781534, 3162087217, 4266444863, 3147433251⟩ := (round_step _ tb 36 u36 w36).trans rfl
theorem u38 : s0.rounds tb 38 = ⟨2310628336, 1151718143, 3042626767, 9193713, 82382965, 3700781534, 3162087217, 4266444863⟩ := (round_step _ tb 37 u37 w37).trans rfl
theorem u39 : s0.rounds tb 39 = ⟨3292435252, 2310628336, 1151718143, 3042626767, 1722499605, 82382965, 3700781534, 3162087217⟩ := (round_step _ tb 38 u38 w38).trans rfl
theorem u40 : s0.rounds tb 40 = ⟨1681090099, 3292435252, 2310628336, 1151718143, 32180453, 1722499605, 82382965, 3700781534⟩ := (round_step _ tb 39 u39 w39).trans rfl
theorem u41 : s0.rounds tb 41 = ⟨1770502843, 1681090099, 3292435252, 2310628336, 3303208195, 32180453, 1722499605, 82382965⟩ := (round_step _ tb 40 u40 w40).trans rfl
theorem u42 : s0.rounds tb 42 = ⟨2395345743, 1770502843, 1681090099, 3292435252, 2734126551, 3303208195, 32180453, 1722499605⟩ := (round_step _ tb 41 u41 w41).trans rfl
theorem u43 : s0.rounds tb 43 = ⟨2036041327, 2395345743, 1770502843, 1681090099, 1871846032, 2734126551, 3303208195, 32180453⟩ := (round_step _ tb 42 u42 w42).trans rfl
theorem u44 : s0.rounds tb 44 = ⟨1026060219, 2036041327, 2395345743, 1770502843, 3026169053, 1871846032, 2734126551, 3303208195⟩ := (round_step _ tb 43 u43 w43).trans rfl
theorem u45 : s0.rounds tb 45 = ⟨2673947378, 1026060219, 2036041327, 2395345743, 3094464485, 3026169053, 1871846032, 2734126551⟩ := (round_step _ tb 44 u44 w44).trans rfl
theorem u46 : s0.rounds tb 46 = ⟨3041422000, 2673947378, 1026060219, 2036041327, 1377687868, 3094464485, 3026169053, 1871846032⟩ := (round_step _ tb 45 u45 w45).trans rfl
theorem u47 : s0.rounds tb 47 = ⟨3272296704, 3041422000, 2673947378, 1026060219, 629207683, 1377687868, 3094464485, 3026169053⟩ := (round_step _ tb 46 u46 w46).trans rfl
theorem u48 : s0.rounds tb 48 = ⟨418048349, 3272296704, 3041422000, 2673947378, 1760109906, 629207683, 1377687868, 3094464485⟩ := (round_step _ tb 47 u47 w47).trans rfl
theorem u49 : s0.rounds tb 49 = ⟨2032755422, 418048349, 3272296704, 3041422000, 3754500957, 1760109906, 629207683, 1377687868⟩ := (round_step _ tb 48 u48 w48).trans rfl
theorem u50 : s0.rounds tb 50 = ⟨4177128510, 2032755422, 418048349, 3272296704, 669255034, 3754500957, 1760109906, 629207683⟩ := (round_step _ tb 49 u49 w49).trans rfl
theorem u51 : s0.rounds tb 51 = ⟨1427127739, 4177128510, 2032755422, 418048349, 1723356986, 669255034, 3754500957, 1760109906⟩ := (round_step _ tb 50 u50 w50).trans rfl
theorem u52 : s0.rounds tb 52 = ⟨2981204512, 1427127739, 4177128510, 2032755422, 3640312836, 1723356986, 669255034, 3754500957⟩ := (round_step _ tb 51 u51 w51).trans rfl
theorem u53 : s0.rounds tb 53 = ⟨1928067141, 2981204512, 1427127739, 4177128510, 2135044903, 3640312836, 1723356986, 669255034⟩ := (round_step _ tb 52 u52 w52).trans rfl
theorem u54 : s0.rounds tb 54 = ⟨1911876592, 1928067141, 2981204512, 1427127739, 3352077192, 2135044903, 3640312836, 1723356986⟩ := (round_step _ tb 53 u53 w53).trans rfl
theorem u55 : s0.rounds tb 55 = ⟨4055260225, 1911876592, 1928067141, 2981204512, 1149446912, 3352077192, 2135044903, 3640312836⟩ := (round_step _ tb 54 u54 w54).trans rfl
theorem u56 : s0.rounds tb 56 = ⟨3879672747, 4055260225, 1911876592, 1928067141, 3756431398, 1149446912, 3352077192, 2135044903⟩ := (round_step _ tb 55 u55 w55).trans rfl
theorem u57 : s0.rounds tb 57 = ⟨1771186552, 3879672747, 4055260225, 1911876592, 298415438, 3756431398, 1149446912, 3352077192⟩ := (round_step _ tb 56 u56 w56).trans rfl
theorem u58 : s0.rounds tb 58 = ⟨866438871, 1771186552, 3879672747, 4055260225, 2866903541, 298415438, 3756431398, 1149446912⟩ := (round_step _ tb 57 u57 w57).trans rfl
theorem u59 : s0.rounds tb 59 = ⟨2374638555, 866438871, 1771186552, 3879672747, 4062083524, 2866903541, 298415438, 3756431398⟩ := (round_step _ tb 58 u58 w58).trans rfl
theorem u60 : s0.rounds tb 60 = ⟨966028272, 2374638555, 866438871, 1771186552, 3783259952, 4062083524, 2866903541, 298415438⟩ := (round_step _ tb 59 u59 w59).trans rfl
theorem u61 : s0.rounds tb 61 = ⟨497005535, 966028272, 2374638555, 866438871, 1298299595, 3783259952, 4062083524, 2866903541⟩ := (round_step _ tb 60 u60 w60).trans rfl
theorem u62 : s0.rounds tb 62 = ⟨177190837, 497005535, 966028272, 2374638555, 4182101557, 1298299595, 3783259952, 4062083524⟩ := (round_step _ tb 61 u61 w61).trans rfl
theorem u63 : s0.rounds tb 63 = ⟨1894035105, 177190837, 497005535, 966028272, 586787021, 4182101557, 1298299595, 3783259952⟩ := (round_step _ tb 62 u62 w62).trans rfl
theorem u64 : s0.rounds tb 64 = ⟨1032248716, 1894035105, 177190837, 497005535, 2734909561, 586787021, 4182101557, 1298299595⟩ := (round_step _ tb 63 u63 w63).trans rfl
theorem done : s0.compress tb = ⟨2732885382, 1026030040, 1689030016, 607298029, 1199410252, 1865719062, 3571968279, 3324627671⟩ := by
  unfold St.compress
  rw [u64]
  rfl
end Sha.J2
namespace Sha.J3
def l : List Nat := [22, 57, 58, 57, 92, 92, 92, 92, 92, 92, 92, 92, 92, 92, 92, 92, 92, 92, 92, 92, 92, 92, 92, 92, 92, 92, 92, 92, 92, 92, 92, 92, 92, 92, 92, 92, 92, 92, 92, 92, 92, 92, 92, 92, 92, 92, 92, 92, 92, 92, 92, 92, 92, 92, 92, 92, 92, 92, 92, 92, 92, 92, 92, 92]
def tb (i : Nat) : Nat := l.getD i 0
def s0 : St := ⟨1779033703, 3144134277, 1013904242, 2773480762, 1359893119, 2600822924, 528734635, 1541459225⟩
theorem w0 : word tb 0 = 372849209 := rfl
theorem w1 : word tb 1 = 1549556828 := rfl
theorem w2 : word tb 2 = 1549556828 := rfl
theorem w3 : word tb 3 = 1549556828 := rfl
theorem w4 : word tb 4 = 1549556828 := rfl
theorem w5 : word tb 5 = 1549556828 := rfl
theorem w6 : word tb 6 = 1549556828 := rfl
theorem w7 : word tb 7 = 1549556828 := rfl
theorem w8 : word tb 8 = 1549556828 := rfl
theorem w9 : word tb 9 = 1549556828 := rfl
theorem w10 : word tb 10 = 1549556828 := rfl
theorem w11 : word tb 11 = 1549556828 := rfl
theorem w12 : word tb 12 = 1549556828 := rfl
theorem w13 : word tb 13 = 1549556828 := rfl
theorem w14 : word tb 14 = 1549556828 := rfl
theorem w15 : word tb 15 = 1549556828 := rfl
theorem w16 : word tb 16 = 3161222507 := (word_step tb 0 w0 w1 w9 w14).trans rfl
theorem w17 : word tb 17 = 42962830 := (word_step tb 1 w1 w2 w10 w15).trans rfl
theorem w18 : word tb 18 = 404000636 := (word_step tb 2 w2 w3 w11 w16).trans rfl
theorem w19 : word tb 19 = 2467512273 := (word_step tb 3 w3 w4 w12 w17).trans rfl
theorem w20 : word tb 20 = 859072263 := (word_step tb 4 w4 w5 w13 w18).trans rfl
theorem w21 : word tb 21 = 1427315712 := (word_step tb 5 w5 w6 w14 w19).trans rfl
theorem w22 : word tb 22 = 474779585 := (word_step tb 6 w6 w7 w15 w20).trans rfl
theorem w23 : word tb 23 = 2860667607 := (word_step tb 7 w7 w8 w16 w21).trans rfl
theorem w24 : word tb 24 = 3643788954 := (word_step tb 8 w8 w9 w17 w22).trans rfl
theorem w25 : word tb 25 = 2075168897 := (word_step tb 9 w9 w10 w18 w23).trans rfl
theorem w26 : word tb 26 = 2990292114 := (word_step tb 10 w10 w11 w19 w24).trans rfl
theorem w27 : word tb 27 = 2382587409 := (word_step tb 11 w11 w12 w20 w25).trans rfl
theorem w28 : word tb 28 = 4018871510 := (word_step tb 12 w12 w13 w21 w26).trans rfl
theorem w29 : word tb 29 = 4239820377 := (word_step tb 13 w13 w14 w22 w27).trans rfl
theorem w30 : word tb 30 = 2563578954 := (word_step tb 14 w14 w15 w23 w28).trans rfl
theorem w31 : word tb 31 = 2769605070 := (word_step tb 15 w15 w16 w24 w29).trans rfl
theorem w32 : word tb 32 = 1700698225 := (word_step tb 16 w16 w17 w25 w30).trans rfl
theorem w33 : word tb 33 = 2159103536 := (word_step tb 17 w17 w18 w26 w31).trans rfl
theorem w34 : word tb 34 = 3287802992 := (word_step tb 18 w18 w19 w27 w32).trans rfl
theorem w35 : word tb 35 = 593363367 := (word_step tb 19 w19 w20 w28 w33).trans rfl
theorem w36 : word tb 36 = 192529112 := (word_step tb 20 w20 w21 w29 w34).trans rfl
theorem w37 : word tb 37 = 1360079490 := (word_step tb 21 w21 w22 w30 w35).trans rfl
theorem w38 : word tb 38 = 3376930961 := (word_step tb 22 w22 w23 w31 w36).trans rfl
theorem w39 : word tb 39 = 2635538989 := (word_step tb 23 w23 w24 w32 w37).trans rfl
theorem w40 : word tb 40 = 2414532378 := (word_step tb 24 w24 w25 w33 w38).trans rfl
theorem w41 : word tb 41 = 4045668662 := (word_step tb 25 w25 w26 w34 w39).trans rfl
theorem w42 : word tb 42 = 4064294020 := (word_step tb 26 w26 w27 w35 w40).trans rfl
theorem w43 : word tb 43 = 2434459360 := (word_step tb 27 w27 w28 w36 w41).trans rfl
theorem w44 : word tb 44 = 1803846055 := (word_step tb 28 w28 w29 w37 w42).trans rfl
theorem w45 : word tb 45 = 3066110595 := (word_step tb 29 w29 w30 w38 w43).trans rfl
theorem w46 : word tb 46 = 3296531176 := (word_step tb 30 w30 w31 w39 w44).trans rfl
theorem w47 : word tb 47 = 850984513 := (word_step tb 31 w31 w32 w40 w45).trans rfl
theorem w48 : word tb 48 = 2755029778 := (word_step tb 32 w32 w33 w41 w46).trans rfl
theorem w49 : word tb 49 = 3569006499 := (word_step tb 33 w33 w34 w42 w47).trans rfl
theorem w50 : word tb 50 = 404327223 := (word_step tb 34 w34 w35 w43 w48).trans rfl
theorem w51 : word tb 51 = 1573063349 := (word_step tb 35 w35 w36 w44 w49).trans rfl
theorem w52 : word tb 52 = 4216775177 := (word_step tb 36 w36 w37 w45 w50).trans rfl
theorem w53 : word tb 53 = 3158815879 := (word_step tb 37 w37 w38 w46 w51).trans rfl
theorem w54 : word tb 54 = 697279375 := (word_step tb 38 w38 w39 w47 w52).trans rfl
theorem w55 : word tb 55 = 4285395516 := (word_step tb 39 w39 w40 w48 w53).trans rfl
theorem w56 : word tb 56 = 4260173128 := (word_step tb 40 w40 w41 w49 w54).trans rfl
theorem w57 : word tb 57 = 1798406653 := (word_step tb 41 w41 w42 w50 w55).trans rfl
theorem w58 : word tb 58 = 3807291038 := (word_step tb 42 w42 w43 w51 w56).trans rfl
theorem w59 : word tb 59 = 3776700765 := (word_step tb 43 w43 w44 w52 w57).trans rfl
theorem w60 : word tb 60 = 142973014 := (word_step tb 44 w44 w45 w53 w58).trans rfl
theorem w61 : word tb 61 = 4207622607 := (word_step tb 45 w45 w46 w54 w59).trans rfl
theorem w62 : word tb 62 = 4273015794 := (word_step tb 46 w46 w47 w55 w60).trans rfl
theorem w63 : word tb 63 = 3616591156 := (word_step tb 47 w47 w48 w56 w61).trans rfl
theorem u0 : s0.rounds tb 0 = ⟨1779033703, 3144134277, 1013904242, 2773480762, 1359893119, 2600822924, 528734635, 1541459225⟩ := rfl
theorem u1 : s0.rounds tb 1 = ⟨306299526, 1779033703, 3144134277, 1013904242, 2936085723, 1359893119, 2600822924, 528734635⟩ := (round_step _ tb 0 u0 w0).trans rfl
theorem u2 : s0.rounds tb 2 = ⟨1162892779, 306299526, 1779033703, 3144134277, 2949801968, 2936085723, 1359893119, 2600822924⟩ := (round_step _ tb 1 u1 w1).trans rfl
theorem u3 : s0.rounds tb 3 = ⟨56851182, 1162892779, 306299526, 1779033703, 1026543519, 2949801968, 2936085723, 1359893119⟩ := (round_step _ tb 2 u2 w2).trans rfl
theorem u4 : s0.rounds tb 4 = ⟨1016891460, 56851182, 1162892779, 306299526, 3374423568, 1026543519, 2949801968, 2936085723⟩ := (round_step _ tb 3 u3 w3).trans rfl
theorem u5 : s0.rounds tb 5 = ⟨3407021222, 1016891460, 56851182, 1162892779, 2564593719, 3374423568, 1026543519, 2949801968⟩ := (round_step _ tb 4 u4 w4).trans rfl
theorem u6 : s0.rounds tb 6 = ⟨2970825623, 3407021222, 1016891460, 56851182, 259030527, 2564593719, 3374423568, 1026543519⟩ := (round_step _ tb 5 u5 w5).trans rfl
theorem u7 : s0.rounds tb 7 = ⟨3846845587, 2970825623, 3407021222, 1016891460, 4083389507, 259030527, 2564593719, 3374423568⟩ := (round_step _ tb 6 u6 w6).trans rfl
theorem u8 : s0.rounds tb 8 = ⟨1766020873, 3846845587, 2970825623, 3407021222, 1336721878, 4083389507, 259030527, 2564593719⟩ := (round_step _ tb 7 u7 w7).trans rfl
theorem u9 : s0.rounds tb 9 = ⟨2530474846, 1766020873, 3846845587, 2970825623, 2438729204, 1336721878, 4083389507, 259030527⟩ := (round_step _ tb 8 u8 w8).trans rfl
theorem u10 : s0.rounds tb 10 = ⟨3124892255, 2530474846, 1766020873, 3846845587, 1432657096, 2438729204, 1336721878, 4083389507⟩ := (round_step _ tb 9 u9 w9).trans rfl
theorem u11 : s0.rounds tb 11 = ⟨3359021770, 3124892255, 2530474846, 1766020873, 2132366224, 1432657096, 2438729204, 1336721878⟩ := (round_step _ tb 10 u10 w10).trans rfl
theorem u12 : s0.rounds tb 12 = ⟨3996609976, 3359021770, 3124892255, 2530474846, 4277624381, 2132366224, 1432657096, 2438729204⟩ := (round_step _ tb 11 u11 w11).trans rfl
theorem u13 : s0.rounds tb 13 = ⟨2712017991, 3996609976, 3359021770, 3124892255, 3259478878, 4277624381, 2132366224, 1432657096⟩ := (round_step _ tb 12 u12 w12).trans rfl
theorem u14 : s0.rounds tb 14 = ⟨3747850377, 2712017991, 3996609976, 3359021770, 524945783, 3259478878, 4277624381, 2132366224⟩ := (round_step _ tb 13 u13 w13).trans rfl
theorem u15 : s0.rounds tb 15 = ⟨1581181863, 3747850377, 2712017991, 3996609976, 2048533414, 524945783, 3259478878, 4277624381⟩ := (round_step _ tb 14 u14 w14).trans rfl
theorem u16 : s0.rounds tb 16 = ⟨3887641967, 1581181863, 3747850377, 2712017991, 2242749498, 2048533414, 524945783, 3259478878⟩ := (round_step _ tb 15 u15 w15).trans rfl
theorem u17 : s0.rounds tb 17 = ⟨3366791942, 3887641967, 1581181863, 3747850377, 3671322270, 2242749498, 2048533414, 524945783⟩ := (round_step _ tb 16 u16 w16).trans rfl
theorem u18 : s0.rounds tb 18 = ⟨2698420256, 3366791942, 3887641967, 1581181863, 1389136120, 3671322270, 2242749498, 2048533414⟩ := (round_step _ tb 17 u17 w17).trans rfl
theorem u19 : s0.rounds tb 19 = ⟨1715724929, 2698420256, 3366791942, 3887641967, 1880490180, 1389136120, 3671322270, 2242749498⟩ := (round_step _ tb 18 u18 w18).trans rfl
theorem u20 : s0.rounds tb 20 = ⟨1018896082, 1715724929, 2698420256, 3366791942, 26895131, 1880490180, 1389136120, 3671322270⟩ := (round_step _ tb 19 u19 w19).trans rfl
theorem u21 : s0.rounds tb 21 = ⟨188215122, 1018896082, 1715724929, 2698420256, 424480058, 26895131, 1880490180, 1389136120⟩ := (round_step _ tb 20 u20 w20).trans rfl
theorem u22 : s0.rounds tb 22 = ⟨2468578610, 188215122, 1018896082, 1715724929, 3722791993, 424480058, 26895131, 1880490180⟩ := (round_step _ tb 21 u21 w21).trans rfl
theorem u23 : s0.rounds tb 23 = ⟨3017334912, 2468578610, 188215122, 1018896082, 4221600147, 3722791993, 424480058, 26895131⟩ := (round_step _ tb 22 u22 w22).trans rfl
theorem u24 : s0.rounds tb 24 = ⟨2306479146, 3017334912, 2468578610, 188215122, 3884952002, 4221600147, 3722791993, 424480058⟩ := (round_step _ tb 23 u23 w23).trans rfl
theorem u25 : s0.rounds tb 25 = ⟨4186376739, 2306479146, 3017334912, 2468578610, 2246709332, 3884952002, 4221600147, 3722791993⟩ := (round_step _ tb 24 u24 w24).trans rfl
theorem u26 : s0.rounds tb 26 = ⟨470934947, 4186376739, 2306479146, 3017334912, 1107618141, 2246709332, 3884952002, 4221600147⟩ := (round_step _ tb 25 u25 w25).trans rfl
theorem u27 : s0.rounds tb 27 = ⟨2799500822, 470934947, 4186376739, 2306479146, 337167580, 1107618141, 2246709332, 3884952002⟩ := (round_step _ tb 26 u26 w26).trans rfl
theorem u28 : s0.rounds tb 28 = ⟨2249207827, 2799500822, 470934947, 4186376739, 670695969, 337167580, 1107618141, 2246709332⟩ := (round_step _ tb 27 u27 w27).trans rfl
theorem u29 : s0.rounds tb 29 = ⟨1712689412, 2249207827, 2799500822, 470934947, 3081974903, 670695969, 337167580, 1107618141⟩ := (round_step _ tb 28 u28 w28).trans rfl
theorem u30 : s0.rounds tb 30 = ⟨868661405, 1712689412, 2249207827, 2799500822, 3789662389, 3081974903, 670695969, 337167580⟩ := (round_step _ tb 29 u29 w29).trans rfl
theorem u31 : s0.rounds tb 31 = ⟨1181367301, 868661405, 1712689412, 2249207827, 876102953, 3789662389, 3081974903, 670695969⟩ := (round_step _ tb 30 u30 w30).trans rfl
theorem u32 : s0.rounds tb 32 = ⟨574063009, 1181367301, 868661405, 1712689412, 683692134, 876102953, 3789662389, 3081974903⟩ := (round_step _ tb 31 u31 w31).trans rfl
theorem u33 : s0.rounds tb 33 = ⟨3626113118, 574063009, 1181367301, 868661405, 2152627073, 683692134, 876102953, 3789662389⟩ := (round_step _ tb 32 u32 w32).trans rfl
theorem u34 : s0.rounds tb 34 = ⟨1424798098, 3626113118, 574063009, 1181367301, 1240602051, 2152627073, 683692134, 876102953⟩ := (round_step _ tb 33 u33 w33).trans rfl
theorem u35 : s0.rounds tb 35 = ⟨2910409935, 1424798098, 3626113118, 574063009, 4165811440, 1240602051, 2152627073, 683692134⟩ := (round_step _ tb 34 u34 w34).trans rfl
theorem u36 : s0.rounds tb 36 = ⟨3889237299, 2910409935, 1424798098, 3626113118, 2234547626, 4165811440, 1240602051, 2152627073⟩ := (round_step _ tb 35 u35 w35).trans rfl
theorem u37 : s0.rounds tb 37 = ⟨4217923895, 3889237299, 2910409935, 1424798098, 422689191, 2234547626, 4165811440, 1240602051⟩ := (round_step _ tb 36 u36 w36).trans rfl
theorem u38 : s0.rounds tb 38 = ⟨696199273, 4217923895, 3889237299, 2910409935, 2016505313, 422689191, 2234547626, 4165811440⟩ := (round_step _ tb 37 u37 w37).trans rfl
theorem u39 : s0.rounds tb 39 = ⟨3811746297, 696199273, 4217923895, 3889237299, 2944116815, 2016505313, 422689191, 2234547626⟩ := (round_step _ tb 38 u38 w38).trans rfl
theorem u40 : s0.rounds tb 40 = ⟨545631264, 3811746297, 696199273, 4217923895, 1599617395, 2944116815, 2016505313, 422689191⟩ := (round_step _ tb 39 u39 w39).trans rfl
theorem u41 : s0.rounds tb 41 = ⟨1797828738, 545631264, 3811746297, 696199273, 3318251945, 1599617395, 2944116815, 2016505313⟩ := (round_step _ tb 40 u40 w40).trans rfl
theorem u42 : s0.rounds tb 42 = ⟨378956838, 1797828738, 545631264, 3811746297, 551122726, 3318251945, 1599617395, 2944116815⟩ := (round_step _ tb 41 u41 w41).trans rfl
theorem u43 : s0.rounds tb 43 = ⟨3027682200, 378956838, 1797828738, 545631264, 3086942607, 551122726, 3318251945, 1599617395⟩ := (round_step _ tb 42 u42 w42).trans rfl
theorem u44 : s0.rounds tb 44 = ⟨711985500, 3027682200, 378956838, 1797828738, 703095673, 3086942607, 551122726, 3318251945⟩ := (round_step _ tb 43 u43 w43).trans rfl
theorem u45 : s0.rounds tb 45 = ⟨1532660519, 711985500, 3027682200, 378956838, 263508239, 703095673, 3086942607, 551122726⟩ := (round_step _ tb 44 u44 w44).trans rfl
theorem u46 : s0.rounds tb 46 = ⟨1342829627, 1532660519, 711985500, 3027682200, 1181544405, 263508239, 703095673, 3086942607⟩ := (round_step _ tb 45 u45 w45).trans rfl
theorem u47 : s0.rounds tb 47 = ⟨3864410346, 1342829627, 1532660519, 711985500, 4000080706, 1181544405, 263508239, 703095673⟩ := (round_step _ tb 46 u46 w46).trans rfl
theorem u48 : s0.rounds tb 48 = ⟨2203755050, 3864410346, 1342829627, 1532660519, 894360649, 4000080706, 1181544405, 263508239⟩ := (round_step _ tb 47 u47 w47).trans rfl
theorem u49 : s0.rounds tb 49 = ⟨3690913719, 2203755050, 3864410346, 1342829627, 2582946402, 894360649, 4000080706, 1181544405⟩ := (round_step _ tb 48 u48 w48).trans rfl
theorem u50 : s0.rounds tb 50 = ⟨2695898159, 3690913719, 2203755050, 3864410346, 1025222220, 2582946402, 894360649, 4000080706⟩ := (round_step _ tb 49 u49 w49).trans rfl
theorem u51 : s0.rounds tb 51 = ⟨1233167408, 2695898159, 3690913719, 2203755050, 2719646947, 1025222220, 2582946402, 894360649⟩ := (round_step _ tb 50 u50 w50).trans rfl
theorem u52 : s0.rounds tb 52 = ⟨480439019, 1233167408, 2695898159, 3690913719, 2765767855, 2719646947, 1025222220, 2582946402⟩ := (round_step _ tb 51 u51 w51).trans rfl
theorem u53 : s0.rounds tb 53 = ⟨4064638355, 480439019, 1233167408, 2695898159, 2848439616, 2765767855, 2719646947, 1025222220⟩ := (round_step _ tb 52 u52 w52).trans rfl
theorem u54 : s0.rounds tb 54 = ⟨3537630543, 4064638355, 480439019, 1233167408, 3576869957, 2848439616, 2765767855, 2719646947⟩ := (round_step _ tb 53 u53 w53).trans rfl
theorem u55 : s0.rounds tb 55 = ⟨3550970026, 3537630543, 4064638355, 480439019, 424073800, 3576869957, 2848439616, 2765767855⟩ := (round_step _ tb 54 u54 w54).trans rfl
theorem u56 : s0.rounds tb 56 = ⟨2324381631, 3550970026, 3537630543, 4064638355, 2762497735, 424073800, 3576869957, 2848439616⟩ := (round_step _ tb 55 u55 w55).trans rfl
theorem u57 : s0.rounds tb 57 = ⟨97305251, 2324381631, 3550970026, 3537630543, 4058389739, 2762497735, 424073800, 3576869957⟩ := (round_step _ tb 56 u56 w56).trans rfl
theorem u58 : s0.rounds tb 58 = ⟨2387828544, 97305251, 2324381631, 3550970026, 4131274507, 4058389739, 2762497735, 424073800⟩ := (round_step _ tb 57 u57 w57).trans rfl
theorem u59 : s0.rounds tb 59 = ⟨1729566623, 2387828544, 97305251, 2324381631, 386240819, 4131274507, 4058389739, 2762497735⟩ := (round_step _ tb 58 u58 w58).trans rfl
theorem u60 : s0.rounds tb 60 = ⟨3005196218, 1729566623, 2387828544, 97305251, 4243787571, 386240819, 4131274507, 4058389739⟩ := (round_step _ tb 59 u59 w59).trans rfl
theorem u61 : s0.rounds tb 61 = ⟨2280088978, 3005196218, 1729566623, 2387828544, 4145050812, 4243787571, 386240819, 4131274507⟩ := (round_step _ tb 60 u60 w60).trans rfl
theorem u62 : s0.rounds tb 62 = ⟨771439737, 2280088978, 3005196218, 1729566623, 71026655, 4145050812, 4243787571, 386240819⟩ := (round_step _ tb 61 u61 w61).trans rfl
theorem u63 : s0.rounds tb 63 = ⟨1473871847, 771439737, 2280088978, 3005196218, 3534433628, 71026655, 4145050812, 4243787571⟩ := (round_step _ tb 62 u62 w62).trans rfl
theorem u64 : s0.rounds tb 64 = ⟨2762341742, 1473871847, 771439737, 2280088978, 9874120, 3534433628, 71026655, 4145050812⟩ := (round_step _ tb 63 u63 w63).trans rfl
theorem done : s0.compress tb = ⟨246408149, 323038828, 1785343979, 758602444, 1369767239, 1840289256, 599761290, 1391542741⟩ := by
  unfold St.compress
  rw [u64]
  rfl
end Sha.J3
namespace Sha.J4
def l : List Nat := [162, 228, 133, 134, 61, 39, 249, 216, 100, 172, 141, 128, 36, 50, 161, 237, 71, 125, 140, 76, 111, 52, 157, 22, 212, 231, 233, 23, 198, 41, 202, 215, 128, 0, 0, 0, 0, 0, 0, 0, 0, 0, 0, 0, 0, 0, 0, 0, 0, 0, 0, 0, 0, 0, 0, 0, 0, 0, 0, 0, 0, 0, 3, 0]
def tb (i : Nat) : Nat := l.getD i 0
def s0 : St := ⟨246408149, 323038828, 1785343979, 758602444, 1369767239, 1840289256, 599761290, 1391542741⟩
theorem w0 : word tb 0 = 2732885382 := rfl
theorem w1 : word tb 1 = 1026030040 := rfl
theorem w2 : word tb 2 = 1689030016 := rfl
theorem w3 : word tb 3 = 607298029 := rfl
theorem w4 : word tb 4 = 1199410252 := rfl
theorem w5 : word tb 5 = 1865719062 := rfl
theorem w6 : word tb 6 = 3571968279 := rfl
theorem w7 : word tb 7 = 3324627671 := rfl
theorem w8 : word tb 8 = 2147483648 := rfl
theorem w9 : word tb 9 = 0 := rfl
theorem w10 : word tb 10 = 0 := rfl
theorem w11 : word tb 11 = 0 := rfl
theorem w12 : word tb 12 = 0 := rfl
theorem w13 : word tb 13 = 0 := rfl
theorem w14 : word tb 14 = 0 := rfl
theorem w15 : word tb 15 = 768 := rfl
theorem w16 : word tb 16 = 3968681223 := (word_step tb 0 w0 w1 w9 w14).trans rfl
theorem w17 : word tb 17 = 1850002264 := (word_step tb 1 w1 w2 w10 w15).trans rfl
theorem w18 : word tb 18 = 3849989752 := (word_step tb 2 w2 w3 w11 w16).trans rfl
theorem w19 : word tb 19 = 344041747 := (word_step tb 3 w3 w4 w12 w17).trans rfl
theorem w20 : word tb 20 = 2697272890 := (word_step tb 4 w4 w5 w13 w18).trans rfl
theorem w21 : word tb 21 = 542387609 := (word_step tb 5 w5 w6 w14 w19).trans rfl
theorem w22 : word tb 22 = 3352738969 := (word_step tb 6 w6 w7 w15 w20).trans rfl
theorem w23 : word tb 23 = 1462685961 := (word_step tb 7 w7 w8 w16 w21).trans rfl
theorem w24 : word tb 24 = 2016606742 := (word_step tb 8 w8 w9 w17 w22).trans rfl
theorem w25 : word tb 25 = 2552920382 := (word_step tb 9 w9 w10 w18 w23).trans rfl
theorem w26 : word tb 26 = 920234164 := (word_step tb 10 w10 w11 w19 w24).trans rfl
theorem w27 : word tb 27 = 342078408 := (word_step tb 11 w11 w12 w20 w25).trans rfl
theorem w28 : word tb 28 = 26564982 := (word_step tb 12 w12 w13 w21 w26).trans rfl
theorem w29 : word tb 29 = 2003750122 := (word_step tb 13 w13 w14 w22 w27).trans rfl
theorem w30 : word tb 30 = 1602516765 := (word_step tb 14 w14 w15 w23 w28).trans rfl
theorem w31 : word tb 31 = 2066871560 := (word_step tb 15 w15 w16 w24 w29).trans rfl
theorem w32 : word tb 32 = 3388255968 := (word_step tb 16 w16 w17 w25 w30).trans rfl
theorem w33 : word tb 33 = 3495295836 := (word_step tb 17 w17 w18 w26 w31).trans rfl
theorem w34 : word tb 34 = 192534143 := (word_step tb 18 w18 w19 w27 w32).trans rfl
theorem w35 : word tb 35 = 2145414065 := (word_step tb 19 w19 w20 w28 w33).trans rfl
theorem w36 : word tb 36 = 659753927 := (word_step tb 20 w20 w21 w29 w34).trans rfl
theorem w37 : word tb 37 = 1021122539 := (word_step tb 21 w21 w22 w30 w35).trans rfl
theorem w38 : word tb 38 = 3550816106 := (word_step tb 22 w22 w23 w31 w36).trans rfl
theorem w39 : word tb 39 = 3885953875 := (word_step tb 23 w23 w24 w32 w37).trans rfl
theorem w40 : word tb 40 = 1886424640 := (word_step tb 24 w24 w25 w33 w38).trans rfl
theorem w41 : word tb 41 = 1345995822 := (word_step tb 25 w25 w26 w34 w39).trans rfl
theorem w42 : word tb 42 = 2349134464 := (word_step tb 26 w26 w27 w35 w40).trans rfl
theorem w43 : word tb 43 = 1621732883 := (word_step tb 27 w27 w28 w36 w41).trans rfl
theorem w44 : word tb 44 = 2397004286 := (word_step tb 28 w28 w29 w37 w42).trans rfl
theorem w45 : word tb 45 = 1517337706 := (word_step tb 29 w29 w30 w38 w43).trans rfl
theorem w46 : word tb 46 = 114872163 := (word_step tb 30 w30 w31 w39 w44).trans rfl
theorem w47 : word tb 47 = 677825693 := (word_step tb 31 w31 w32 w40 w45).trans rfl
theorem w48 : word tb 48 = 1980262682 := (word_step tb 32 w32 w33 w41 w46).trans rfl
theorem w49 : word tb 49 = 2803376677 := (word_step tb 33 w33 w34 w42 w47).trans rfl
theorem w50 : word tb 50 = 499584714 := (word_step tb 34 w34 w35 w43 w48).trans rfl
theorem w51 : word tb 51 = 1821670865 := (word_step tb 35 w35 w36 w44 w49).trans rfl
theorem w52 : word tb 52 = 2090327214 := (word_step tb 36 w36 w37 w45 w50).trans rfl
theorem w53 : word tb 53 = 2064187487 := (word_step tb 37 w37 w38 w46 w51).trans rfl
theorem w54 : word tb 54 = 433185440 := (word_step tb 38 w38 w39 w47 w52).trans rfl
theorem w55 : word tb 55 = 2875251162 := (word_step tb 39 w39 w40 w48 w53).trans rfl
theorem w56 : word tb 56 = 2889339922 := (word_step tb 40 w40 w41 w49 w54).trans rfl
theorem w57 : word tb 57 = 305586326 := (word_step tb 41 w41 w42 w50 w55).trans rfl
theorem w58 : word tb 58 = 1250573677 := (word_step tb 42 w42 w43 w51 w56).trans rfl
theorem w59 : word tb 59 = 3193488113 := (word_step tb 43 w43 w44 w52 w57).trans rfl
theorem w60 : word tb 60 = 1406300513 := (word_step tb 44 w44 w45 w53 w58).trans rfl
theorem w61 : word tb 61 = 3797583781 := (word_step tb 45 w45 w46 w54 w59).trans rfl
theorem w62 : word tb 62 = 3040706143 := (word_step tb 46 w46 w47 w55 w60).trans rfl
theorem w63 : word tb 63 = 136903913 := (word_step tb 47 w47 w48 w56 w61).trans rfl
theorem u0 : s0.rounds tb 0 = ⟨246408149, 323038828, 1785343979, 758602444, 1369767239, 1840289256, 599761290, 1391542741⟩ := rfl
theorem u1 : s0.rounds tb 1 = ⟨4041579290, 246408149, 323038828, 1785343979, 824503369, 1369767239, 1840289256, 599761290⟩ := (round_step _ tb 0 u0 w0).trans rfl
theorem u2 : s0.rounds tb 2 = ⟨1959831309, 4041579290, 246408149, 323038828, 3654459763, 824503369, 1369767239, 1840289256⟩ := (round_step _ tb 1 u1 w1).trans rfl
theorem u3 : s0.rounds tb 3 = ⟨1043939947, 1959831309, 4041579290, 246408149, 3033600805, 3654459763, 824503369, 1369767239⟩ := (round_step _ tb 2 u2 w2).trans rfl
theorem u4 : s0.rounds tb 4 = ⟨993936809, 1043939947, 1959831309, 4041579290, 2602473675, 3033600805, 3654459763, 824503369⟩ := (round_step _ tb 3 u3 w3).trans rfl
theorem u5 : s0.rounds tb 5 = ⟨333847611, 993936809, 1043939947, 1959831309, 738362296, 2602473675, 3033600805, 3654459763⟩ := (round_step _ tb 4 u4 w4).trans rfl
theorem u6 : s0.rounds tb 6 = ⟨3411046379, 333847611, 993936809, 1043939947, 1200676444, 738362296, 2602473675, 3033600805⟩ := (round_step _ tb 5 u5 w5).trans rfl
theorem u7 : s0.rounds tb 7 = ⟨313318587, 3411046379, 333847611, 993936809, 1765401383, 1200676444, 738362296, 2602473675⟩ := (round_step _ tb 6 u6 w6).trans rfl
theorem u8 : s0.rounds tb 8 = ⟨1561690836, 313318587, 3411046379, 333847611, 4067302848, 1765401383, 1200676444, 738362296⟩ := (round_step _ tb 7 u7 w7).trans rfl
theorem u9 : s0.rounds tb 9 = ⟨698199969, 1561690836, 313318587, 3411046379, 2323784564, 4067302848, 1765401383, 1200676444⟩ := (round_step _ tb 8 u8 w8).trans rfl
theorem u10 : s0.rounds tb 10 = ⟨2523467648, 698199969, 1561690836, 313318587, 105598231, 2323784564, 4067302848, 1765401383⟩ := (round_step _ tb 9 u9 w9).trans rfl
theorem u11 : s0.rounds tb 11 = ⟨1974430984, 2523467648, 698199969, 1561690836, 1839056722, 105598231, 2323784564, 4067302848⟩ := (round_step _ tb 10 u10 w10).trans rfl
theorem u12 : s0.rounds tb 12 = ⟨954725819, 1974430984, 2523467648, 698199969, 2545152288, 1839056722, 105598231, 2323784564⟩ := (round_step _ tb 11 u11 w11).trans rfl
theorem u13 : s0.rounds tb 13 = ⟨3019193386, 954725819, 1974430984, 2523467648, 2892801937, 2545152288, 1839056722, 105598231⟩ := (round_step _ tb 12 u12 w12).trans rfl
theorem u14 : s0.rounds tb 14 = ⟨2599669705, 3019193386, 954725819, 1974430984, 1713170355, 2892801937, 2545152288, 1839056722⟩ := (round_step _ tb 13 u13 w13).trans rfl
theorem u15 : s0.rounds tb 15 = ⟨2272784109, 2599669705, 3019193386, 954725819, 1784699971, 1713170355, 2892801937, 2545152288⟩ := (round_step _ tb 14 u14 w14).trans rfl
theorem u16 : s0.rounds tb 16 = ⟨1380589304, 2272784109, 2599669705, 3019193386, 774877105, 1784699971, 1713170355, 2892801937⟩ := (round_step _ tb 15 u15 w15).trans rfl
theorem u17 : s0.rounds tb 17 = ⟨1789921736, 1380589304, 2272784109, 2599669705, 3238363746, 774877105, 1784699971, 1713170355⟩ := (round_step _ tb 16 u16 w16).trans rfl
theorem u18 : s0.rounds tb 18 = ⟨190670283, 1789921736, 1380589304, 2272784109, 3474370644, 3238363746, 774877105, 1784699971⟩ := (round_step _ tb 17 u17 w17).trans rfl
theorem u19 : s0.rounds tb 19 = ⟨4147611726, 190670283, 1789921736, 1380589304, 2604612031, 3474370644, 3238363746, 774877105⟩ := (round_step _ tb 18 u18 w18).trans rfl
theorem u20 : s0.rounds tb 20 = ⟨346577901, 4147611726, 190670283, 1789921736, 3659665576, 2604612031, 3474370644, 3238363746⟩ := (round_step _ tb 19 u19 w19).trans rfl
theorem u21 : s0.rounds tb 21 = ⟨684746798, 346577901, 4147611726, 190670283, 1091969084, 3659665576, 2604612031, 3474370644⟩ := (round_step _ tb 20 u20 w20).trans rfl
theorem u22 : s0.rounds tb 22 = ⟨1362955583, 684746798, 346577901, 4147611726, 2634303089, 1091969084, 3659665576, 2604612031⟩ := (round_step _ tb 21 u21 w21).trans rfl
theorem u23 : s0.rounds tb 23 = ⟨3884628829, 1362955583, 684746798, 346577901, 2223555225, 2634303089, 1091969084, 3659665576⟩ := (round_step _ tb 22 u22 w22).trans rfl
theorem u24 : s0.rounds tb 24 = ⟨3390953963, 3884628829, 1362955583, 684746798, 4081919869, 2223555225, 2634303089, 1091969084⟩ := (round_step _ tb 23 u23 w23).trans rfl
theorem u25 : s0.rounds tb 25 = ⟨2857153720, 3390953963, 3884628829, 1362955583, 3309369771, 4081919869, 2223555225, 2634303089⟩ := (round_step _ tb 24 u24 w24).trans rfl
theorem u26 : s0.rounds tb 26 = ⟨2160820043, 2857153720, 3390953963, 3884628829, 712455343, 3309369771, 4081919869, 2223555225⟩ := (round_step _ tb 25 u25 w25).trans rfl
theorem u27 : s0.rounds tb 27 = ⟨291930662, 2160820043, 2857153720, 3390953963, 923748366, 712455343, 3309369771, 4081919869⟩ := (round_step _ tb 26 u26 w26).trans rfl
theorem u28 : s0.rounds tb 28 = ⟨4156641967, 291930662, 2160820043, 2857153720, 841925240, 923748366, 712455343, 3309369771⟩ := (round_step _ tb 27 u27 w27).trans rfl
theorem u29 : s0.rounds tb 29 = ⟨2152611352, 4156641967, 291930662, 2160820043, 722619171, 841925240, 923748366, 712455343⟩ := (round_step _ tb 28 u28 w28).trans rfl
theorem u30 : s0.rounds tb 30 = ⟨2298450464, 2152611352, 4156641967, 291930662, 2421493575, 722619171, 841925240, 923748366⟩ := (round_step _ tb 29 u29 w29).trans rfl
theorem u31 : s0.rounds tb 31 = ⟨1779441290, 2298450464, 2152611352, 4156641967, 2905894193, 2421493575, 722619171, 841925240⟩ := (round_step _ tb 30 u30 w30).trans rfl
theorem u32 : s0.rounds tb 32 = ⟨4116937835, 1779441290, 2298450464, 2152611352, 907621000, 2905894193, 2421493575, 722619171⟩ := (round_step _ tb 31 u31 w31).trans rfl
theorem u33 : s0.rounds tb 33 = ⟨3133411268, 4116937835, 1779441290, 2298450464, 3198702558, 907621000, 2905894193, 2421493575⟩ := (round_step _ tb 32 u32 w32).trans rfl
theorem u34 : s0.rounds tb 34 = ⟨1439886242, 3133411268, 4116937835, 1779441290, 2749798334, 3198702558, 907621000, 2905894193⟩ := (round_step _ tb 33 u33 w33).trans rfl
theorem u35 : s0.rounds tb 35 = ⟨875506737, 1439886242, 3133411268, 4116937835, 615792049, 2749798334, 3198702558, 907621000⟩ := (round_step _ tb 34 u34 w34).trans rfl
theorem u36 : s0.rounds tb 36 = ⟨2977923186, 875506737, 1439886242, 3133411268, 3790216856, 615792049, 2749798334, 3198702558⟩ := (round_step _ tb 35 u35 w35).trans rfl
theorem u37 : s0.rounds tb 37 = ⟨982160207, 2977923186, 875506737, 1439886242, 1845713340, 3790216856, 615792049, 2749798334⟩ := (round_step _ tb 36 u36 w36).trans rfl
theorem u38 : s0.rounds tb 38 = ⟨776132375, 982160207, 2977923186, 875506737, 3578787289, 1845713340, 3790216856, 615792049⟩ := (round_step _ tb 37 u37 w37).trans rfl
theorem u39 : s0.rounds tb 39 = ⟨219493221, 776132375, 982160207, 2977923186, 2391027925, 3578787289, 1845713340, 3790216856⟩ := (round_step _ tb 38 u38 w38).trans rfl
theorem u40 : s0.rounds tb 40 = ⟨154773110, 219493221, 776132375, 982160207, 1434461, 2391027925, 3578787289, 1845713340⟩ := (round_step _ tb 39 u39 w39).trans rfl
theorem u41 : s0.rounds tb 41 = ⟨3494752526, 154773110, 219493221, 776132375, 2791216242, 1434461, 2391027925, 3578787289⟩ := (round_step _ tb 40 u40 w40).trans rfl
theorem u42 : s0.rounds tb 42 = ⟨1434473164, 3494752526, 154773110, 219493221, 1879286030, 2791216242, 1434461, 2391027925⟩ := (round_step _ tb 41 u41 w41).trans rfl
theorem u43 : s0.rounds tb 43 = ⟨3927783189, 1434473164, 3494752526, 154773110, 601828933, 1879286030, 2791216242, 1434461⟩ := (round_step _ tb 42 u42 w42).trans rfl
theorem u44 : s0.rounds tb 44 = ⟨2263692966, 3927783189, 1434473164, 3494752526, 153444236, 601828933, 1879286030, 2791216242⟩ := (round_step _ tb 43 u43 w43).trans rfl
theorem u45 : s0.rounds tb 45 = ⟨835066815, 2263692966, 3927783189, 1434473164, 2603660654, 153444236, 601828933, 1879286030⟩ := (round_step _ tb 44 u44 w44).trans rfl
theorem u46 : s0.rounds tb 46 = ⟨127255046, 835066815, 2263692966, 3927783189, 2959206659, 2603660654, 153444236, 601828933⟩ := (round_step _ tb 45 u45 w45).trans rfl
theorem u47 : s0.rounds tb 47 = ⟨2765118419, 127255046, 835066815, 2263692966, 3226151953, 2959206659, 2603660654, 153444236⟩ := (round_step _ tb 46 u46 w46).trans rfl
theorem u48 : s0.rounds tb 48 = ⟨1521651129, 2765118419, 127255046, 835066815, 1157949923, 3226151953, 2959206659, 2603660654⟩ := (round_step _ tb 47 u47 w47).trans rfl
theorem u49 : s0.rounds tb 49 = ⟨1177069914, 1521651129, 2765118419, 127255046, 2148361718, 1157949923, 3226151953, 2959206659⟩ := (round_step _ tb 48 u48 w48).trans rfl
theorem u50 : s0.rounds tb 50 = ⟨3641224308, 1177069914, 1521651129, 2765118419, 535851668, 2148361718, 1157949923, 3226151953⟩ := (round_step _ tb 49 u49 w49).trans rfl
theorem u51 : s0.rounds tb 51 = ⟨295890845, 3641224308, 1177069914, 1521651129, 3841289660, 535851668, 2148361718, 1157949923⟩ := (round_step _ tb 50 u50 w50).trans rfl
theorem u52 : s0.rounds tb 52 = ⟨778242746, 295890845, 3641224308, 1177069914, 2226038881, 3841289660, 535851668, 2148361718⟩ := (round_step _ tb 51 u51 w51).trans rfl
theorem u53 : s0.rounds tb 53 = ⟨514978188, 778242746, 295890845, 3641224308, 4183069467, 2226038881, 3841289660, 535851668⟩ := (round_step _ tb 52 u52 w52).trans rfl
theorem u54 : s0.rounds tb 54 = ⟨2147132470, 514978188, 778242746, 295890845, 3998526328, 4183069467, 2226038881, 3841289660⟩ := (round_step _ tb 53 u53 w53).trans rfl
theorem u55 : s0.rounds tb 55 = ⟨2116350456, 2147132470, 514978188, 778242746, 4227248560, 3998526328, 4183069467, 2226038881⟩ := (round_step _ tb 54 u54 w54).trans rfl
theorem u56 : s0.rounds tb 56 = ⟨326709299, 2116350456, 2147132470, 514978188, 3214810256, 4227248560, 3998526328, 4183069467⟩ := (round_step _ tb 55 u55 w55).trans rfl
theorem u57 : s0.rounds tb 57 = ⟨1457073595, 326709299, 2116350456, 2147132470, 1418482573, 3214810256, 4227248560, 3998526328⟩ := (round_step _ tb 56 u56 w56).trans rfl
theorem u58 : s0.rounds tb 58 = ⟨1867794770, 1457073595, 326709299, 2116350456, 3153832657, 1418482573, 3214810256, 4227248560⟩ := (round_step _ tb 57 u57 w57).trans rfl
theorem u59 : s0.rounds tb 59 = ⟨2560606515, 1867794770, 1457073595, 326709299, 1057515693, 3153832657, 1418482573, 3214810256⟩ := (round_step _ tb 58 u58 w58).trans rfl
theorem u60 : s0.rounds tb 60 = ⟨2606167869, 2560606515, 1867794770, 1457073595, 3207783277, 1057515693, 3153832657, 1418482573⟩ := (round_step _ tb 59 u59 w59).trans rfl
theorem u61 : s0.rounds tb 61 = ⟨3680377595, 2606167869, 2560606515, 1867794770, 301659758, 3207783277, 1057515693, 3153832657⟩ := (round_step _ tb 60 u60 w60).trans rfl
theorem u62 : s0.rounds tb 62 = ⟨4288279611, 3680377595, 2606167869, 2560606515, 2049750831, 301659758, 3207783277, 1057515693⟩ := (round_step _ tb 61 u61 w61).trans rfl
theorem u63 : s0.rounds tb 63 = ⟨2887730914, 4288279611, 3680377595, 2606167869, 796304283, 2049750831, 301659758, 3207783277⟩ := (round_step _ tb 62 u62 w62).trans rfl
theorem u64 : s0.rounds tb 64 = ⟨1294785905, 2887730914, 4288279611, 3680377595, 140198337, 796304283, 2049750831, 301659758⟩ := (round_step _ tb 63 u63 w63).trans rfl
theorem done : s0.compress tb = ⟨1541194054, 3210769742, 1778656294, 144012743, 1509965576, 2636593539, 2649512121, 1693202499⟩ := by
  unfold St.compress
  rw [u64]
  rfl
end Sha.J4
namespace Sha
open Go.Proofs.YtfafidholldjlaaDoor (stBytes wordBytes)
set_option maxRecDepth 100000 in
theorem jefe_in : sumOf (mixed [74, 101, 102, 101] 0x36 ++ [119, 104, 97, 116, 32, 100, 111, 32, 121, 97, 32, 119, 97, 110, 116, 32, 102, 111, 114, 32, 110, 111, 116, 104, 105, 110, 103, 63]) = ⟨2732885382, 1026030040, 1689030016, 607298029, 1199410252, 1865719062, 3571968279, 3324627671⟩ := by
  rw [sum_two _ J1.l J2.l (by rfl) (by rfl) (by rfl)]
  have e : St.first.compress (fun i => J1.l.getD i 0) = J2.s0 := J1.done
  rw [e]
  exact J2.done
set_option maxRecDepth 100000 in
theorem jefe_bytes : digestOf (mixed [74, 101, 102, 101] 0x36 ++ [119, 104, 97, 116, 32, 100, 111, 32, 121, 97, 32, 119, 97, 110, 116, 32, 102, 111, 114, 32, 110, 111, 116, 104, 105, 110, 103, 63]) = [162, 228, 133, 134, 61, 39, 249, 216, 100, 172, 141, 128, 36, 50, 161, 237, 71, 125, 140, 76, 111, 52, 157, 22, 212, 231, 233, 23, 198, 41, 202, 215] := by
  unfold digestOf
  rw [jefe_in]
  rfl
set_option maxRecDepth 100000 in
theorem jefe_out : sumOf (mixed [74, 101, 102, 101] 0x5c ++ [162, 228, 133, 134, 61, 39, 249, 216, 100, 172, 141, 128, 36, 50, 161, 237, 71, 125, 140, 76, 111, 52, 157, 22, 212, 231, 233, 23, 198, 41, 202, 215]) = ⟨1541194054, 3210769742, 1778656294, 144012743, 1509965576, 2636593539, 2649512121, 1693202499⟩ := by
  rw [sum_two _ J3.l J4.l (by rfl) (by rfl) (by rfl)]
  have e : St.first.compress (fun i => J3.l.getD i 0) = J4.s0 := J3.done
  rw [e]
  exact J4.done
set_option maxRecDepth 100000 in
/-- THE KNOWN TAG. -/
theorem jefe : hmac [74, 101, 102, 101] [119, 104, 97, 116, 32, 100, 111, 32, 121, 97, 32, 119, 97, 110, 116, 32, 102, 111, 114, 32, 110, 111, 116, 104, 105, 110, 103, 63] = [91, 220, 193, 70, 191, 96, 117, 78, 106, 4, 36, 38, 8, 149, 117, 199, 90, 0, 63, 8, 157, 39, 57, 131, 157, 236, 88, 185, 100, 236, 56, 67] := by
  have hk : keyOf [74, 101, 102, 101] = [74, 101, 102, 101] := rfl
  unfold hmac inOf
  rw [hk, jefe_bytes]
  unfold digestOf
  rw [jefe_out]
  rfl
end Sha
/- Digits, in plain Lean; the document's answer for them. -/
set_option linter.unusedVariables false
set_option linter.unusedSimpArgs false
namespace Go.Proofs.YtfafidholldjlaaDoor
open Go.RowKit
/-- A digit. -/
def dig (n : Nat) : UInt8 := if n < 10 then UInt8.ofNat (48 + n) else UInt8.ofNat (87 + n)
/-- A text's digits. -/
def hexOf (l : List UInt8) : List UInt8 := l.flatMap fun b => [dig (b.toNat / 16), dig (b.toNat % 16)]
theorem hexOf_append (l m : List UInt8) : hexOf (l ++ m) = hexOf l ++ hexOf m := by simp [hexOf]
theorem hexOf_length (l : List UInt8) : (hexOf l).length = 2 * l.length := by
  induction l with
  | nil => rfl
  | cons b l ih =>
    have e : hexOf (b :: l) = [dig (b.toNat / 16), dig (b.toNat % 16)] ++ hexOf l := by simp [hexOf]
    rw [e, List.length_append, ih]
    simp
    omega
def digitsText : ByteArray := ⟨#[48, 49, 50, 51, 52, 53, 54, 55, 56, 57, 97, 98, 99, 100, 101, 102]⟩
theorem digit_slices : ∀ a : Fin 16, digitsText.extract a.val (a.val + 1) = ⟨#[dig a.val]⟩ := by decide
theorem digit_slice (a : Nat) (ha : a < 16) : digitsText.extract a (a + 1) = ⟨#[dig a]⟩ := digit_slices ⟨a, ha⟩
/-- The digits of a text's first bytes. -/
def hexText (s : ByteArray) (i : Nat) : ByteArray := ⟨(hexOf (s.data.toList.take i)).toArray⟩
theorem hexText_zero (s : ByteArray) : hexText s 0 = ⟨#[]⟩ := rfl
theorem hexText_size (s : ByteArray) (i : Nat) (h : i ≤ s.size) : (hexText s i).size = 2 * i := by
  show (hexOf (s.data.toList.take i)).toArray.size = _
  have h' : i ≤ s.data.size := h
  rw [List.size_toArray, hexOf_length, List.length_take, Array.length_toList, Nat.min_eq_left h']
theorem hexText_succ (s : ByteArray) (i : Nat) (h : i < s.size) : hexText s i ++ ⟨#[dig (byteAt s i / 16)]⟩ ++ ⟨#[dig (byteAt s i % 16)]⟩ = hexText s (i + 1) := by
  apply ByteArray.ext
  rw [ByteArray.data_append, ByteArray.data_append]
  apply Array.toList_inj.1
  have hb : (UInt8.ofNat (byteAt s i)).toNat = byteAt s i := by rw [UInt8.toNat_ofNat']; exact Nat.mod_eq_of_lt (byteAt_lt s i)
  have e : hexOf [UInt8.ofNat (byteAt s i)] = [dig (byteAt s i / 16), dig (byteAt s i % 16)] := by simp [hexOf, hb]
  unfold hexText
  rw [take_byte s i h, hexOf_append, e]
  simp
theorem slice_digit (a : Nat) (ha : a < 16) (ai : Int) (h : ai = (a : Int)) (W : World) :
    (Instr.slice 9 (.string ⟨#[48, 49, 50, 51, 52, 53, 54, 55, 56, 57, 97, 98, 99, 100, 101, 102]⟩) (some (.int .i64 ai)) (some (.int .i64 (ai + 1))) none).run Tryd.prog W = .ok (.string ⟨#[dig a]⟩) W := by
  subst h
  have hd := digit_slice a ha
  have h := run_slice_string (P := Tryd.prog) W 9 digitsText .i64 .i64 (a : Int) ((a : Int) + 1) Tryd.underlying9 (by omega) (by omega) (by show ((a : Int) + 1) ≤ 16; omega)
  have e1 : ((a : Int)).toNat = a := by omega
  have e2 : ((a : Int) + 1).toNat = a + 1 := by omega
  rw [e1, e2, hd] at h
  exact h
theorem below_draws {B : Nat} {a w : World} (h : Below B a w) (n : Nat) : Below B a (w.drewN n) := h.trans ⟨rfl, rfl, rfl, Nat.le_refl _, fun _ _ => rfl⟩
set_option maxRecDepth 100000 in
theorem refHex_any (s : ByteArray) (hs : s.size ≤ 1000000) (w : World) : Calls Tryd.prog 58 #[.string s] w fun e w' => e = .returned (.string (hexText s s.size)) ∧ Below w.heap.size w w' := by
  go_enter Tryd.func58, Tryd.ntmps58
  go_wp2_with fail
  go_loopw [4, 5] (fun v i W => ∃ t : Nat, t ≤ s.size ∧ v = .string (hexText s t) ∧ i = .int .i64 t ∧ Below w.heap.size w W) (fun _ i _ => s.size - (intOf i).toNat)
  case atStart => exact ⟨0, by omega, by rw [hexText_zero], rfl, Below.refl _ _⟩
  case round =>
    obtain ⟨t, ht, rfl, rfl, hbl⟩ := hrel
    have i2 : (s.size : Int) ≤ 1000000 := by omega
    by_cases hlt : t < s.size
    · have i0 : (t : Int) < (s.size : Int) := by omega
      have hix := index_at s (t : Int) t rfl hlt wr
      have hb := byteAt_lt s t
      have hsu := hexText_succ s t hlt
      have hsz := hexText_size s t ht
      obtain ⟨x, hx⟩ : ∃ x, byteAt s t = x := ⟨_, rfl⟩
      rw [hx] at hix hb hsu
      have d1 := digit_slice (x / 16) (by omega)
      have d2 := digit_slice (x % 16) (by omega)
      have HSU := Lib.hid hsu
      clear hsu
      obtain ⟨p, hp⟩ : ∃ p, hexText s t = p := ⟨_, rfl⟩
      rw [hp] at hsz ⊢
      have lp : (p.size : Int) ≤ 8388608 := by omega
      have b0 : (x : Int) < 256 := by omega
      have b1 : (0 : Int) ≤ (x : Int) := by omega
      have HP := Lib.hid hp
      clear hp
      have s1 := slice_digit (x / 16) (by omega) ((x : Int) / 16) (by omega)
      have s2 := slice_digit (x % 16) (by omega) ((x : Int) % 16) (by omega)
      have z1 : (⟨#[dig (x / 16)]⟩ : ByteArray).size = 1 := rfl
      have z2 : (⟨#[dig (x % 16)]⟩ : ByteArray).size = 1 := rfl
      generalize (⟨#[dig (x / 16)]⟩ : ByteArray) = y1 at s1 z1 HSU
      generalize (⟨#[dig (x % 16)]⟩ : ByteArray) = y2 at s2 z2 HSU
      have z3 : (p ++ y1).size = p.size + y1.size := ByteArray.size_append
      have l1 : (y1.size : Int) ≤ 8388608 := by omega
      have l2 : (y2.size : Int) ≤ 8388608 := by omega
      have l3 : p.size + y1.size ≤ 9223372036854775807 := by omega
      have l4 : ((p ++ y1).size : Int) ≤ 8388608 := by omega
      have l5 : (p ++ y1).size + y2.size ≤ 9223372036854775807 := by omega
      clear d1 d2
      go_wp2_with fail
      go_quiet (fail)
      clear s1 s2
      go_wp2_with fail
      go_roundw
      case rel => exact ⟨t + 1, by omega, by rw [← HSU.out, HP.out], by go_num, below_draws hbl _⟩
      case measure => simp [intOf]; omega
    · obtain rfl : t = s.size := by omega
      go_wp2_with fail
      go_ret
      exact ⟨rfl, hbl⟩
end Go.Proofs.YtfafidholldjlaaDoor
/- Digits, of package tag. -/
set_option linter.unusedVariables false
set_option linter.unusedSimpArgs false
namespace Go.Proofs.YtfafidholldjlaaDoor
open Go.RowKit
theorem index_at_u8 (s : ByteArray) (i : Int) (k : Nat) (h : i = (k : Int)) (hk : k < s.size) (W : World) : (Instr.index 9 (.string s) (.int .u8 i)).run Tryd.prog W = .ok (.int .u8 (byteAt s k : Nat)) W := by
  subst h
  rw [run_index_string (P := Tryd.prog) W 9 s .u8 (k : Int) Tryd.underlying9, dif_pos (by omega)]
  have h' : k < s.data.toList.length := by simpa using hk
  congr 3
  unfold byteAt
  rw [List.getD_eq_getElem?_getD, List.getElem?_eq_getElem h']
  simp
  rfl
theorem digit_byte : ∀ a : Fin 16, byteAt digitsText a.val = (dig a.val).toNat := by decide
theorem index_digit (a : Nat) (ha : a < 16) (ai : Int) (h : ai = (a : Int)) (W : World) : (Instr.index 9 (.string ⟨#[48, 49, 50, 51, 52, 53, 54, 55, 56, 57, 97, 98, 99, 100, 101, 102]⟩) (.int .u8 ai)).run Tryd.prog W = .ok (.int .u8 ((dig a).toNat : Nat)) W := by
  have h1 := index_at_u8 digitsText ai a h ha W
  rw [digit_byte ⟨a, ha⟩] at h1
  exact h1
theorem and15 (x : Nat) (hx : x < 256) : bits .and .u8 (x : Int) 15 = (x : Int) % 16 := by
  have : ∀ x : Fin 256, bits .and .u8 (x.val : Int) 15 = (x.val : Int) % 16 := by decide +kernel
  exact this ⟨x, hx⟩
theorem conv_owned {W : World} {base n : Nat} {v : Value} {l : List UInt8} (h : W.ownsRow base 5 1 v n (byteCells l)) (hn : l.length = n) : (convert 40 9 v).run Tryd.prog W = .ok (.string ⟨l.toArray⟩) W := by
  rcases h.2 with ⟨rfl, h0⟩ | ⟨g, cap, cur, rfl, hb, hgg, rest⟩
  · obtain rfl : l = [] := List.length_eq_zero_iff.1 (by omega)
    kernel_rfl
  · have hx := run_convert_bytes_back (P := Tryd.prog) W 40 9 5 ⟨g, 0, none⟩ cap l Tryd.underlying40 Tryd.underlying5 Tryd.underlying9 (fun j hj => by
      rw [Addr.add_lit, Nat.zero_add]
      refine ownsRow_cell h j _ ?_
      simp [byteCells, List.getElem?_eq_getElem hj])
    rw [hn] at hx
    exact hx
set_option maxRecDepth 100000 in
theorem hex_any (s : ByteArray) (hs : s.size ≤ 1000000) (w : World) : Calls Tryd.prog 57 #[.string s] w fun e w' => e = .returned (.string (hexText s s.size)) ∧ Below w.heap.size w w' := by
  obtain ⟨ti, hi, hz0, hz1, hz2⟩ := info_parts info5
  have Hi := Lib.hid hi
  have Hz0 := Lib.hid hz0
  have Hz1 := Lib.hid hz1
  have Hz2 := Lib.hid hz2
  clear hi hz0 hz1 hz2
  obtain ⟨C, hC⟩ : ∃ C, grownCap w s.size 0 5 = C := ⟨_, rfl⟩
  have hcv := run_bytes_of_string (P := Tryd.prog) w 9 40 5 s Tryd.underlying9 Tryd.underlying40 Tryd.underlying5
  rw [hC] at hcv
  obtain ⟨Wc, hWc⟩ : ∃ Wc, w.drew.alloc (.cells (bytesRow s C) 5 ((bytesRow s C).size, (bytesRow s C).size + 1)) = Wc := ⟨_, rfl⟩
  rw [hWc] at hcv
  have hb0 : Below w.heap.size w Wc := by rw [← hWc]; exact ((Below.refl _ w).drew).alloc (Nat.le_refl _) _
  have hsz0 : Wc.heap.size = w.heap.size + 1 := by rw [← hWc]; simp
  have hby : ∀ j, j < s.size → Wc.cell? ⟨w.heap.size, j, none⟩ = some (.int .u8 (byteAt s j : Nat)) := by
    intro j hj
    have hj' : j < s.data.size := hj
    have hb := bytesRow_at s C j hj'
    have e : byteAt s j = s.data[j].toNat := by
      unfold byteAt
      rw [List.getD_eq_getElem?_getD, Array.getElem?_toList, Array.getElem?_eq_getElem hj']
      rfl
    rw [e, ← hWc]
    exact (World.cell?_alloc_mark w.drew (bytesRow s C) 5 ((bytesRow s C).size, (bytesRow s C).size + 1) j).trans hb
  have HB0 := Lib.hid hb0
  have HBY := Lib.hid hby
  clear hWc hb0 hby
  go_enter Tryd.func57, Tryd.ntmps57
  go_wp2_with fail
  clear hcv
  go_loopw [3, 9] (fun v i W => ∃ t : Nat, t ≤ s.size ∧ i = .int .i64 t ∧ W.ownsRow (w.heap.size + 1) 5 1 v (2 * t) (byteCells (hexOf (s.data.toList.take t))) ∧ Below (w.heap.size + 1) Wc W) (fun _ i _ => s.size - (intOf i).toNat)
  case atStart => exact ⟨0, by omega, rfl, World.ownsRow_nil _ _ _ _, Below.refl _ _⟩
  case round =>
    obtain ⟨t, ht, rfl, hrow, hbl⟩ := hrel
    have i2 : (s.size : Int) ≤ 1000000 := by omega
    by_cases hlt : t < s.size
    · have i0 : (t : Int) < (s.size : Int) := by omega
      have hc := (hbl.cell (p := ⟨w.heap.size, t, none⟩) (by show w.heap.size < w.heap.size + 1; omega)).trans (HBY.out t hlt)
      have hb := byteAt_lt s t
      have an := and15 (byteAt s t) hb
      obtain ⟨x, hx⟩ : ∃ x, byteAt s t = x := ⟨_, rfl⟩
      rw [hx] at hc hb an
      have b0 : (x : Int) < 256 := by omega
      have b1 : (0 : Int) ≤ (x : Int) := by omega
      have ix1 := fun W => index_digit (x / 16) (by omega) ((x : Int) / 16) (by omega) W
      have ix2 := fun W => index_digit (x % 16) (by omega) ((x : Int) % 16) (by omega) W
      have Hrow := Lib.hid hrow
      have Hbl := Lib.hid hbl
      have Hx := Lib.hid hx
      clear hrow hbl hx
      have hsu : byteCells (hexOf (s.data.toList.take (t + 1))) = byteCells (hexOf (s.data.toList.take t)) ++ [.int .u8 ((dig (x / 16)).toNat : Int), .int .u8 ((dig (x % 16)).toNat : Int)] := by
        have e : hexOf [UInt8.ofNat x] = [dig (x / 16), dig (x % 16)] := by
          have hb' : (UInt8.ofNat x).toNat = x := by rw [UInt8.toNat_ofNat']; exact Nat.mod_eq_of_lt hb
          simp [hexOf, hb']
        rw [take_byte s t hlt, Hx.out, hexOf_append, e]
        simp [byteCells]
      have HSU := Lib.hid hsu
      clear hsu
      generalize dig (x / 16) = d1 at ix1 HSU
      generalize dig (x % 16) = d2 at ix2 HSU
      go_wp2_with fail
      clear hc
      have hbs : w.heap.size + 1 ≤ wr.heap.size + 1 := by have := Hbl.out.size; omega
      have hn1 : 2 * t + 2 ≤ maxLen := by unfold maxLen; omega
      have hn2 : (2 * t + 2) * 1 ≤ 140737488355328 := by omega
      go_region_law (first | ((refine step_append_lies _ (by rfl) _ _ _ (by rfl) (w.heap.size + 1) 5 ti _ 1 1 Tryd.underlying40 Hi.out Hz0.out Hz1.out Hz2.out rfl (by decide) u3 (2 * t) (byteCells (hexOf (s.data.toList.take t))) (by rfl) ((Hrow.out.alloc _).drew) ⟨wr.heap.size, 0, none⟩ 2 2 [.int .u8 (d1.toNat : Int), .int .u8 (d2.toNat : Int)] (by rfl) (by rfl) (World.news_of_block (cs := #[.int .u8 (d1.toNat : Int), .int .u8 (d2.toNat : Int)]) (t := 5) (fr := (0, 0)) (heap_alloc_new wr _)) (by simp [Value.oneCell']) (by decide) hn1 hn2 (by simpa using hbs) (wr.heap.size + 1) (by simp) ?_; intro gg cap w1 hown1 hgrow hat hlt1; have Hown1 := Lib.hid hown1; have Hgrow := Lib.hid hgrow; have Hlt1 := Lib.hid hlt1; clear hown1 hgrow hat hlt1)))
      all_goals clear ix1 ix2 an
      all_goals go_wp2_with fail
      all_goals
        go_roundw
        case rel =>
          have e2 : 2 * (t + 1) = 2 * t + 2 := by omega
          refine ⟨t + 1, by omega, by go_num, by rw [HSU.out, e2]; exact Hown1.out, Hbl.out.trans ?_⟩
          exact (((Far.refl (fun j => w.heap.size + 1 ≤ j) wr).alloc _).drew.grown Hgrow.out (fun j e _ => (Hrow.out.lt j e).1)).to_below (hsz0 ▸ Hbl.out.size) (fun i hi hc => by omega)
        case measure => simp [intOf]; omega
    · obtain rfl : t = s.size := by omega
      have Hrow := Lib.hid hrow
      have Hbl := Lib.hid hbl
      have hcv := conv_owned hrow (by rw [hexOf_length, List.length_take, Array.length_toList]; show 2 * min s.data.size s.data.size = 2 * s.data.size; omega)
      have he : (⟨(hexOf (s.data.toList.take s.size)).toArray⟩ : ByteArray) = hexText s s.size := rfl
      rw [he] at hcv
      generalize hz : hexText s s.size = z at hcv ⊢
      clear hrow hbl
      go_wp2_with fail
      go_ret
      exact ⟨by rw [hz]; rfl, HB0.out.trans (Hbl.out.mono (by omega))⟩
end Go.Proofs.YtfafidholldjlaaDoor
