/- The state of the block of three letters, evaluated word by word. -/
import Derived.Test.YtfafidholldjlaaDoorSpecB
set_option linter.unusedVariables false
set_option linter.unusedSimpArgs false
namespace Sha
theorem word_step (b : Nat → Nat) (t : Nat) {p q r s : Nat} (hp : word b t = p) (hq : word b (t + 1) = q) (hr : word b (t + 9) = r) (hs : word b (t + 14) = s) : word b (t + 16) = (p + sig0 q + r + sig1 s) % 4294967296 := by
  rw [word_16 b (t + 16) (by omega)]
  have e0 : t + 16 - 16 = t := by omega
  have e1 : t + 16 - 15 = t + 1 := by omega
  have e2 : t + 16 - 7 = t + 9 := by omega
  have e3 : t + 16 - 2 = t + 14 := by omega
  rw [e0, e1, e2, e3, hp, hq, hr, hs]
theorem round_step (u : St) (b : Nat → Nat) (t : Nat) {v : St} {x : Nat} (hv : u.rounds b t = v) (hx : word b t = x) : u.rounds b (t + 1) = v.round (K.getD t 0) x := by
  simp only [St.rounds, hv, hx]
/-- The block of the three letters. -/
def abc : List Nat := [97, 98, 99, 128, 0, 0, 0, 0, 0, 0, 0, 0, 0, 0, 0, 0, 0, 0, 0, 0, 0, 0, 0, 0, 0, 0, 0, 0, 0, 0, 0, 0, 0, 0, 0, 0, 0, 0, 0, 0, 0, 0, 0, 0, 0, 0, 0, 0, 0, 0, 0, 0, 0, 0, 0, 0, 0, 0, 0, 0, 0, 0, 0, 24]
def ab (i : Nat) : Nat := abc.getD i 0
/-- The first state. -/
def St.first : St := ⟨1779033703, 3144134277, 1013904242, 2773480762, 1359893119, 2600822924, 528734635, 1541459225⟩
theorem w0 : word ab 0 = 1633837952 := rfl
theorem w1 : word ab 1 = 0 := rfl
theorem w2 : word ab 2 = 0 := rfl
theorem w3 : word ab 3 = 0 := rfl
theorem w4 : word ab 4 = 0 := rfl
theorem w5 : word ab 5 = 0 := rfl
theorem w6 : word ab 6 = 0 := rfl
theorem w7 : word ab 7 = 0 := rfl
theorem w8 : word ab 8 = 0 := rfl
theorem w9 : word ab 9 = 0 := rfl
theorem w10 : word ab 10 = 0 := rfl
theorem w11 : word ab 11 = 0 := rfl
theorem w12 : word ab 12 = 0 := rfl
theorem w13 : word ab 13 = 0 := rfl
theorem w14 : word ab 14 = 0 := rfl
theorem w15 : word ab 15 = 24 := rfl
theorem w16 : word ab 16 = 1633837952 := (word_step ab 0 w0 w1 w9 w14).trans rfl
theorem w17 : word ab 17 = 983040 := (word_step ab 1 w1 w2 w10 w15).trans rfl
theorem w18 : word ab 18 = 2108187653 := (word_step ab 2 w2 w3 w11 w16).trans rfl
theorem w19 : word ab 19 = 1610613702 := (word_step ab 3 w3 w4 w12 w17).trans rfl
theorem w20 : word ab 20 = 1050508152 := (word_step ab 4 w4 w5 w13 w18).trans rfl
theorem w21 : word ab 21 = 25426944 := (word_step ab 5 w5 w6 w14 w19).trans rfl
theorem w22 : word ab 22 = 316456923 := (word_step ab 6 w6 w7 w15 w20).trans rfl
theorem w23 : word ab 23 = 3806512014 := (word_step ab 7 w7 w8 w16 w21).trans rfl
theorem w24 : word ab 24 = 3357629466 := (word_step ab 8 w8 w9 w17 w22).trans rfl
theorem w25 : word ab 25 = 3073800610 := (word_step ab 9 w9 w10 w18 w23).trans rfl
theorem w26 : word ab 26 = 3854317833 := (word_step ab 10 w10 w11 w19 w24).trans rfl
theorem w27 : word ab 27 = 845560923 := (word_step ab 11 w11 w12 w20 w25).trans rfl
theorem w28 : word ab 28 = 2636160359 := (word_step ab 12 w12 w13 w21 w26).trans rfl
theorem w29 : word ab 29 = 3968280267 := (word_step ab 13 w13 w14 w22 w27).trans rfl
theorem w30 : word ab 30 = 1881225380 := (word_step ab 14 w14 w15 w23 w28).trans rfl
theorem w31 : word ab 31 = 3552024379 := (word_step ab 15 w15 w16 w24 w29).trans rfl
theorem w32 : word ab 32 = 2482346367 := (word_step ab 16 w16 w17 w25 w30).trans rfl
theorem w33 : word ab 33 = 996719219 := (word_step ab 17 w17 w18 w26 w31).trans rfl
theorem w34 : word ab 34 = 2952069057 := (word_step ab 18 w18 w19 w27 w32).trans rfl
theorem w35 : word ab 35 = 4043988066 := (word_step ab 19 w19 w20 w28 w33).trans rfl
theorem w36 : word ab 36 = 176896406 := (word_step ab 20 w20 w21 w29 w34).trans rfl
theorem w37 : word ab 37 = 1924104970 := (word_step ab 21 w21 w22 w30 w35).trans rfl
theorem w38 : word ab 38 = 2483675966 := (word_step ab 22 w22 w23 w31 w36).trans rfl
theorem w39 : word ab 39 = 610538786 := (word_step ab 23 w23 w24 w32 w37).trans rfl
theorem w40 : word ab 40 = 2672279444 := (word_step ab 24 w24 w25 w33 w38).trans rfl
theorem w41 : word ab 41 = 4037431130 := (word_step ab 25 w25 w26 w34 w39).trans rfl
theorem w42 : word ab 42 = 1042573945 := (word_step ab 26 w26 w27 w35 w40).trans rfl
theorem w43 : word ab 43 = 657669027 := (word_step ab 27 w27 w28 w36 w41).trans rfl
theorem w44 : word ab 44 = 206005234 := (word_step ab 28 w28 w29 w37 w42).trans rfl
theorem w45 : word ab 45 = 2215296807 := (word_step ab 29 w29 w30 w38 w43).trans rfl
theorem w46 : word ab 46 = 2049510749 := (word_step ab 30 w30 w31 w39 w44).trans rfl
theorem w47 : word ab 47 = 106709978 := (word_step ab 31 w31 w32 w40 w45).trans rfl
theorem w48 : word ab 48 = 4215179723 := (word_step ab 32 w32 w33 w41 w46).trans rfl
theorem w49 : word ab 49 = 3430291419 := (word_step ab 33 w33 w34 w42 w47).trans rfl
theorem w50 : word ab 50 = 3118885940 := (word_step ab 34 w34 w35 w43 w48).trans rfl
theorem w51 : word ab 51 = 2845390439 := (word_step ab 35 w35 w36 w44 w49).trans rfl
theorem w52 : word ab 52 = 2226839261 := (word_step ab 36 w36 w37 w45 w50).trans rfl
theorem w53 : word ab 53 = 3256115900 := (word_step ab 37 w37 w38 w46 w51).trans rfl
theorem w54 : word ab 54 = 344409900 := (word_step ab 38 w38 w39 w47 w52).trans rfl
theorem w55 : word ab 55 = 2987358873 := (word_step ab 39 w39 w40 w48 w53).trans rfl
theorem w56 : word ab 56 = 4015503821 := (word_step ab 40 w40 w41 w49 w54).trans rfl
theorem w57 : word ab 57 = 3957764664 := (word_step ab 41 w41 w42 w50 w55).trans rfl
theorem w58 : word ab 58 = 2682456414 := (word_step ab 42 w42 w43 w51 w56).trans rfl
theorem w59 : word ab 59 = 2025622859 := (word_step ab 43 w43 w44 w52 w57).trans rfl
theorem w60 : word ab 60 = 2755645205 := (word_step ab 44 w44 w45 w53 w58).trans rfl
theorem w61 : word ab 61 = 1720397816 := (word_step ab 45 w45 w46 w54 w59).trans rfl
theorem w62 : word ab 62 = 4004225740 := (word_step ab 46 w46 w47 w55 w60).trans rfl
theorem w63 : word ab 63 = 313650667 := (word_step ab 47 w47 w48 w56 w61).trans rfl
theorem u0 : St.first.rounds ab 0 = ⟨1779033703, 3144134277, 1013904242, 2773480762, 1359893119, 2600822924, 528734635, 1541459225⟩ := rfl
theorem u1 : St.first.rounds ab 1 = ⟨1567288269, 1779033703, 3144134277, 1013904242, 4197074466, 1359893119, 2600822924, 528734635⟩ := (round_step _ ab 0 u0 w0).trans rfl
theorem u2 : St.first.rounds ab 2 = ⟨1516951981, 1567288269, 1779033703, 3144134277, 2026797449, 4197074466, 1359893119, 2600822924⟩ := (round_step _ ab 1 u1 w1).trans rfl
theorem u3 : St.first.rounds ab 3 = ⟨3368241063, 1516951981, 1567288269, 1779033703, 4180228587, 2026797449, 4197074466, 1359893119⟩ := (round_step _ ab 2 u2 w2).trans rfl
theorem u4 : St.first.rounds ab 4 = ⟨3578852966, 3368241063, 1516951981, 1567288269, 618661968, 4180228587, 2026797449, 4197074466⟩ := (round_step _ ab 3 u3 w3).trans rfl
theorem u5 : St.first.rounds ab 5 = ⟨71342698, 3578852966, 3368241063, 1516951981, 1135452741, 618661968, 4180228587, 2026797449⟩ := (round_step _ ab 4 u4 w4).trans rfl
theorem u6 : St.first.rounds ab 6 = ⟨725748213, 71342698, 3578852966, 3368241063, 1900175533, 1135452741, 618661968, 4180228587⟩ := (round_step _ ab 5 u5 w5).trans rfl
theorem u7 : St.first.rounds ab 7 = ⟨3842179968, 725748213, 71342698, 3578852966, 2603066369, 1900175533, 1135452741, 618661968⟩ := (round_step _ ab 6 u6 w6).trans rfl
theorem u8 : St.first.rounds ab 8 = ⟨2241887071, 3842179968, 725748213, 71342698, 207977081, 2603066369, 1900175533, 1135452741⟩ := (round_step _ ab 7 u7 w7).trans rfl
theorem u9 : St.first.rounds ab 9 = ⟨2382687417, 2241887071, 3842179968, 725748213, 852110732, 207977081, 2603066369, 1900175533⟩ := (round_step _ ab 8 u8 w8).trans rfl
theorem u10 : St.first.rounds ab 10 = ⟨2357671019, 2382687417, 2241887071, 3842179968, 482944406, 852110732, 207977081, 2603066369⟩ := (round_step _ ab 9 u9 w9).trans rfl
theorem u11 : St.first.rounds ab 11 = ⟨1201185780, 2357671019, 2382687417, 2241887071, 1131095016, 482944406, 852110732, 207977081⟩ := (round_step _ ab 10 u10 w10).trans rfl
theorem u12 : St.first.rounds ab 12 = ⟨4146054569, 1201185780, 2357671019, 2382687417, 2171590377, 1131095016, 482944406, 852110732⟩ := (round_step _ ab 11 u11 w11).trans rfl
theorem u13 : St.first.rounds ab 13 = ⟨2274437520, 4146054569, 1201185780, 2357671019, 509051416, 2171590377, 1131095016, 482944406⟩ := (round_step _ ab 12 u12 w12).trans rfl
theorem u14 : St.first.rounds ab 14 = ⟨3643992854, 2274437520, 4146054569, 1201185780, 1952073950, 509051416, 2171590377, 1131095016⟩ := (round_step _ ab 13 u13 w13).trans rfl
theorem u15 : St.first.rounds ab 15 = ⟨3227803614, 3643992854, 2274437520, 4146054569, 194179596, 1952073950, 509051416, 2171590377⟩ := (round_step _ ab 14 u14 w14).trans rfl
theorem u16 : St.first.rounds ab 16 = ⟨2969183118, 3227803614, 3643992854, 2274437520, 123276749, 194179596, 1952073950, 509051416⟩ := (round_step _ ab 15 u15 w15).trans rfl
theorem u17 : St.first.rounds ab 17 = ⟨567974555, 2969183118, 3227803614, 3643992854, 2150900380, 123276749, 194179596, 1952073950⟩ := (round_step _ ab 16 u16 w16).trans rfl
theorem u18 : St.first.rounds ab 18 = ⟨3271285201, 567974555, 2969183118, 3227803614, 2221859924, 2150900380, 123276749, 194179596⟩ := (round_step _ ab 17 u17 w17).trans rfl
theorem u19 : St.first.rounds ab 19 = ⟨4269243327, 3271285201, 567974555, 2969183118, 3431569761, 2221859924, 2150900380, 123276749⟩ := (round_step _ ab 18 u18 w18).trans rfl
theorem u20 : St.first.rounds ab 20 = ⟨3790736435, 4269243327, 3271285201, 567974555, 2959311225, 3431569761, 2221859924, 2150900380⟩ := (round_step _ ab 19 u19 w19).trans rfl
theorem u21 : St.first.rounds ab 21 = ⟨2647034723, 3790736435, 4269243327, 3271285201, 2329577776, 2959311225, 3431569761, 2221859924⟩ := (round_step _ ab 20 u20 w20).trans rfl
theorem u22 : St.first.rounds ab 22 = ⟨3261099373, 2647034723, 3790736435, 4269243327, 3777329520, 2329577776, 2959311225, 3431569761⟩ := (round_step _ ab 21 u21 w21).trans rfl
theorem u23 : St.first.rounds ab 23 = ⟨2812502591, 3261099373, 2647034723, 3790736435, 1240797514, 3777329520, 2329577776, 2959311225⟩ := (round_step _ ab 22 u22 w22).trans rfl
theorem u24 : St.first.rounds ab 24 = ⟨3319086477, 2812502591, 3261099373, 2647034723, 2856829767, 1240797514, 3777329520, 2329577776⟩ := (round_step _ ab 23 u23 w23).trans rfl
theorem u25 : St.first.rounds ab 25 = ⟨472655928, 3319086477, 2812502591, 3261099373, 673443729, 2856829767, 1240797514, 3777329520⟩ := (round_step _ ab 24 u24 w24).trans rfl
theorem u26 : St.first.rounds ab 26 = ⟨3454534525, 472655928, 3319086477, 2812502591, 339230094, 673443729, 2856829767, 1240797514⟩ := (round_step _ ab 25 u25 w25).trans rfl
theorem u27 : St.first.rounds ab 27 = ⟨3056518332, 3454534525, 472655928, 3319086477, 3343672598, 339230094, 673443729, 2856829767⟩ := (round_step _ ab 26 u26 w26).trans rfl
theorem u28 : St.first.rounds ab 28 = ⟨2010346792, 3056518332, 3454534525, 472655928, 3992961016, 3343672598, 339230094, 673443729⟩ := (round_step _ ab 27 u27 w27).trans rfl
theorem u29 : St.first.rounds ab 29 = ⟨909411017, 2010346792, 3056518332, 3454534525, 1628611511, 3992961016, 3343672598, 339230094⟩ := (round_step _ ab 28 u28 w28).trans rfl
theorem u30 : St.first.rounds ab 30 = ⟨2684750640, 909411017, 2010346792, 3056518332, 2917635127, 1628611511, 3992961016, 3343672598⟩ := (round_step _ ab 29 u29 w29).trans rfl
theorem u31 : St.first.rounds ab 31 = ⟨3935906338, 2684750640, 909411017, 2010346792, 17410874, 2917635127, 1628611511, 3992961016⟩ := (round_step _ ab 30 u30 w30).trans rfl
theorem u32 : St.first.rounds ab 32 = ⟨1941126133, 3935906338, 2684750640, 909411017, 3126399250, 17410874, 2917635127, 1628611511⟩ := (round_step _ ab 31 u31 w31).trans rfl
theorem u33 : St.first.rounds ab 33 = ⟨2564891911, 1941126133, 3935906338, 2684750640, 2631529974, 3126399250, 17410874, 2917635127⟩ := (round_step _ ab 32 u32 w32).trans rfl
theorem u34 : St.first.rounds ab 34 = ⟨4267724277, 2564891911, 1941126133, 3935906338, 1495571923, 2631529974, 3126399250, 17410874⟩ := (round_step _ ab 33 u33 w33).trans rfl
theorem u35 : St.first.rounds ab 35 = ⟨2846323596, 4267724277, 2564891911, 1941126133, 140458035, 1495571923, 2631529974, 3126399250⟩ := (round_step _ ab 34 u34 w34).trans rfl
theorem u36 : St.first.rounds ab 36 = ⟨1705037796, 2846323596, 4267724277, 2564891911, 4105175766, 140458035, 1495571923, 2631529974⟩ := (round_step _ ab 35 u35 w35).trans rfl
theorem u37 : St.first.rounds ab 37 = ⟨1101421745, 1705037796, 2846323596, 4267724277, 124953195, 4105175766, 140458035, 1495571923⟩ := (round_step _ ab 36 u36 w36).trans rfl
theorem u38 : St.first.rounds ab 38 = ⟨887035396, 1101421745, 1705037796, 2846323596, 2768741693, 124953195, 4105175766, 140458035⟩ := (round_step _ ab 37 u37 w37).trans rfl
theorem u39 : St.first.rounds ab 39 = ⟨1841658506, 887035396, 1101421745, 1705037796, 4034403272, 2768741693, 124953195, 4105175766⟩ := (round_step _ ab 38 u38 w38).trans rfl
theorem u40 : St.first.rounds ab 40 = ⟨2045405306, 1841658506, 887035396, 1101421745, 519815328, 4034403272, 2768741693, 124953195⟩ := (round_step _ ab 39 u39 w39).trans rfl
theorem u41 : St.first.rounds ab 41 = ⟨3597076326, 2045405306, 1841658506, 887035396, 641019235, 519815328, 4034403272, 2768741693⟩ := (round_step _ ab 40 u40 w40).trans rfl
theorem u42 : St.first.rounds ab 42 = ⟨3745932591, 3597076326, 2045405306, 1841658506, 2206934801, 641019235, 519815328, 4034403272⟩ := (round_step _ ab 41 u41 w41).trans rfl
theorem u43 : St.first.rounds ab 43 = ⟨397020670, 3745932591, 3597076326, 2045405306, 3737995029, 2206934801, 641019235, 519815328⟩ := (round_step _ ab 42 u42 w42).trans rfl
theorem u44 : St.first.rounds ab 44 = ⟨2638983059, 397020670, 3745932591, 3597076326, 4255271982, 3737995029, 2206934801, 641019235⟩ := (round_step _ ab 43 u43 w43).trans rfl
theorem u45 : St.first.rounds ab 45 = ⟨643991573, 2638983059, 397020670, 3745932591, 2819559920, 4255271982, 3737995029, 2206934801⟩ := (round_step _ ab 44 u44 w44).trans rfl
theorem u46 : St.first.rounds ab 46 = ⟨1923828625, 643991573, 2638983059, 397020670, 3077922209, 2819559920, 4255271982, 3737995029⟩ := (round_step _ ab 45 u45 w45).trans rfl
theorem u47 : St.first.rounds ab 47 = ⟨2706117808, 1923828625, 643991573, 2638983059, 3581645993, 3077922209, 2819559920, 4255271982⟩ := (round_step _ ab 46 u46 w46).trans rfl
theorem u48 : St.first.rounds ab 48 = ⟨1098003085, 2706117808, 1923828625, 643991573, 4274981830, 3581645993, 3077922209, 2819559920⟩ := (round_step _ ab 47 u47 w47).trans rfl
theorem u49 : St.first.rounds ab 49 = ⟨91585771, 1098003085, 2706117808, 1923828625, 3178315832, 4274981830, 3581645993, 3077922209⟩ := (round_step _ ab 48 u48 w48).trans rfl
theorem u50 : St.first.rounds ab 50 = ⟨4045142696, 91585771, 1098003085, 2706117808, 1851537676, 3178315832, 4274981830, 3581645993⟩ := (round_step _ ab 49 u49 w49).trans rfl
theorem u51 : St.first.rounds ab 51 = ⟨2047150241, 4045142696, 91585771, 1098003085, 1391578359, 1851537676, 3178315832, 4274981830⟩ := (round_step _ ab 50 u50 w50).trans rfl
theorem u52 : St.first.rounds ab 52 = ⟨2288941602, 2047150241, 4045142696, 91585771, 1227037726, 1391578359, 1851537676, 3178315832⟩ := (round_step _ ab 51 u51 w51).trans rfl
theorem u53 : St.first.rounds ab 53 = ⟨270520975, 2288941602, 2047150241, 4045142696, 1386118400, 1227037726, 1391578359, 1851537676⟩ := (round_step _ ab 52 u52 w52).trans rfl
theorem u54 : St.first.rounds ab 54 = ⟨4117770203, 270520975, 2288941602, 2047150241, 2672265155, 1386118400, 1227037726, 1391578359⟩ := (round_step _ ab 53 u53 w53).trans rfl
theorem u55 : St.first.rounds ab 55 = ⟨1053056219, 4117770203, 270520975, 2288941602, 3842906959, 2672265155, 1386118400, 1227037726⟩ := (round_step _ ab 54 u54 w54).trans rfl
theorem u56 : St.first.rounds ab 56 = ⟨952932627, 1053056219, 4117770203, 270520975, 1422599787, 3842906959, 2672265155, 1386118400⟩ := (round_step _ ab 55 u55 w55).trans rfl
theorem u57 : St.first.rounds ab 57 = ⟨4241590395, 952932627, 1053056219, 4117770203, 2606665836, 1422599787, 3842906959, 2672265155⟩ := (round_step _ ab 56 u56 w56).trans rfl
theorem u58 : St.first.rounds ab 58 = ⟨3227702383, 4241590395, 952932627, 1053056219, 2118385806, 2606665836, 1422599787, 3842906959⟩ := (round_step _ ab 57 u57 w57).trans rfl
theorem u59 : St.first.rounds ab 59 = ⟨4290184306, 3227702383, 4241590395, 952932627, 1837350854, 2118385806, 2606665836, 1422599787⟩ := (round_step _ ab 58 u58 w58).trans rfl
theorem u60 : St.first.rounds ab 60 = ⟨3064893439, 4290184306, 3227702383, 4241590395, 2988158269, 1837350854, 2118385806, 2606665836⟩ := (round_step _ ab 59 u59 w59).trans rfl
theorem u61 : St.first.rounds ab 61 = ⟨3093179625, 3064893439, 4290184306, 3227702383, 2518632596, 2988158269, 1837350854, 2118385806⟩ := (round_step _ ab 60 u60 w60).trans rfl
theorem u62 : St.first.rounds ab 62 = ⟨80891244, 3093179625, 3064893439, 4290184306, 2492278198, 2518632596, 2988158269, 1837350854⟩ := (round_step _ ab 61 u61 w61).trans rfl
theorem u63 : St.first.rounds ab 63 = ⟨3550093669, 80891244, 3093179625, 3064893439, 4212265488, 2492278198, 2518632596, 2988158269⟩ := (round_step _ ab 62 u62 w62).trans rfl
theorem u64 : St.first.rounds ab 64 = ⟨1349398616, 3550093669, 80891244, 3093179625, 1593118500, 4212265488, 2492278198, 2518632596⟩ := (round_step _ ab 63 u63 w63).trans rfl
theorem shown : St.first.compress ab = ⟨3128432319, 2399260650, 1094795486, 1571693091, 2953011619, 2518121116, 3021012833, 4060091821⟩ := by
  unfold St.compress
  rw [u64]
  rfl
end Sha
