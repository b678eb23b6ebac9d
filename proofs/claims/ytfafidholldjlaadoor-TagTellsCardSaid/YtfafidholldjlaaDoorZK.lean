/- The state of the block of two letters, evaluated word by word; the sums of two and of three letters. -/
import Derived.Test.YtfafidholldjlaaDoorZG
import Derived.Test.YtfafidholldjlaaDoorZJ
import Derived.Test.YtfafidholldjlaaDoorZF
import Derived.Test.YtfafidholldjlaaDoorZC
import Derived.LaidHandle
set_option linter.unusedVariables false
set_option linter.unusedSimpArgs false
namespace Sha.Two
def two : List Nat := [97, 98, 128, 0, 0, 0, 0, 0, 0, 0, 0, 0, 0, 0, 0, 0, 0, 0, 0, 0, 0, 0, 0, 0, 0, 0, 0, 0, 0, 0, 0, 0, 0, 0, 0, 0, 0, 0, 0, 0, 0, 0, 0, 0, 0, 0, 0, 0, 0, 0, 0, 0, 0, 0, 0, 0, 0, 0, 0, 0, 0, 0, 0, 16]
def tb (i : Nat) : Nat := two.getD i 0
theorem w0 : word tb 0 = 1633845248 := rfl
theorem w1 : word tb 1 = 0 := rfl
theorem w2 : word tb 2 = 0 := rfl
theorem w3 : word tb 3 = 0 := rfl
theorem w4 : word tb 4 = 0 := rfl
theorem w5 : word tb 5 = 0 := rfl
theorem w6 : word tb 6 = 0 := rfl
theorem w7 : word tb 7 = 0 := rfl
theorem w8 : word tb 8 = 0 := rfl
theorem w9 : word tb 9 = 0 := rfl
theorem w10 : word tb 10 = 0 := rfl
theorem w11 : word tb 11 = 0 := rfl
theorem w12 : word tb 12 = 0 := rfl
theorem w13 : word tb 13 = 0 := rfl
theorem w14 : word tb 14 = 0 := rfl
theorem w15 : word tb 15 = 16 := rfl
theorem w16 : word tb 16 = 1633845248 := (word_step tb 0 w0 w1 w9 w14).trans rfl
theorem w17 : word tb 17 = 655360 := (word_step tb 1 w1 w2 w10 w15).trans rfl
theorem w18 : word tb 18 = 270033981 := (word_step tb 2 w2 w3 w11 w16).trans rfl
theorem w19 : word tb 19 = 1073742468 := (word_step tb 3 w3 w4 w12 w17).trans rfl
theorem w20 : word tb 20 = 1050487830 := (word_step tb 4 w4 w5 w13 w18).trans rfl
theorem w21 : word tb 21 = 16951296 := (word_step tb 5 w5 w6 w14 w19).trans rfl
theorem w22 : word tb 22 = 864452582 := (word_step tb 6 w6 w7 w15 w20).trans rfl
theorem w23 : word tb 23 = 1650638859 := (word_step tb 7 w7 w8 w16 w21).trans rfl
theorem w24 : word tb 24 = 4027399724 := (word_step tb 8 w8 w9 w17 w22).trans rfl
theorem w25 : word tb 25 = 1211410954 := (word_step tb 9 w9 w10 w18 w23).trans rfl
theorem w26 : word tb 26 = 2028988364 := (word_step tb 10 w10 w11 w19 w24).trans rfl
theorem w27 : word tb 27 = 4277374028 := (word_step tb 11 w11 w12 w20 w25).trans rfl
theorem w28 : word tb 28 = 268710035 := (word_step tb 12 w12 w13 w21 w26).trans rfl
theorem w29 : word tb 29 = 3944143914 := (word_step tb 13 w13 w14 w22 w27).trans rfl
theorem w30 : word tb 30 = 549890843 := (word_step tb 14 w14 w15 w23 w28).trans rfl
theorem w31 : word tb 31 = 1386658034 := (word_step tb 15 w15 w16 w24 w29).trans rfl
theorem w32 : word tb 32 = 2860467165 := (word_step tb 16 w16 w17 w25 w30).trans rfl
theorem w33 : word tb 33 = 1704602302 := (word_step tb 17 w17 w18 w26 w31).trans rfl
theorem w34 : word tb 34 = 1491927166 := (word_step tb 18 w18 w19 w27 w32).trans rfl
theorem w35 : word tb 35 = 12639368 := (word_step tb 19 w19 w20 w28 w33).trans rfl
theorem w36 : word tb 36 = 4093457531 := (word_step tb 20 w20 w21 w29 w34).trans rfl
theorem w37 : word tb 37 = 3985429324 := (word_step tb 21 w21 w22 w30 w35).trans rfl
theorem w38 : word tb 38 = 1833301693 := (word_step tb 22 w22 w23 w31 w36).trans rfl
theorem w39 : word tb 39 = 155258341 := (word_step tb 23 w23 w24 w32 w37).trans rfl
theorem w40 : word tb 40 = 3528335737 := (word_step tb 24 w24 w25 w33 w38).trans rfl
theorem w41 : word tb 41 = 3062717792 := (word_step tb 25 w25 w26 w34 w39).trans rfl
theorem w42 : word tb 42 = 3012079207 := (word_step tb 26 w26 w27 w35 w40).trans rfl
theorem w43 : word tb 43 = 539425273 := (word_step tb 27 w27 w28 w36 w41).trans rfl
theorem w44 : word tb 44 = 1076043381 := (word_step tb 28 w28 w29 w37 w42).trans rfl
theorem w45 : word tb 45 = 2496143508 := (word_step tb 29 w29 w30 w38 w43).trans rfl
theorem w46 : word tb 46 = 1471727768 := (word_step tb 30 w30 w31 w39 w44).trans rfl
theorem w47 : word tb 47 = 3093250499 := (word_step tb 31 w31 w32 w40 w45).trans rfl
theorem w48 : word tb 48 = 3643758778 := (word_step tb 32 w32 w33 w41 w46).trans rfl
theorem w49 : word tb 49 = 432964173 := (word_step tb 33 w33 w34 w42 w47).trans rfl
theorem w50 : word tb 50 = 3888910579 := (word_step tb 34 w34 w35 w43 w48).trans rfl
theorem w51 : word tb 51 = 1993602963 := (word_step tb 35 w35 w36 w44 w49).trans rfl
theorem w52 : word tb 52 = 3286075862 := (word_step tb 36 w36 w37 w45 w50).trans rfl
theorem w53 : word tb 53 = 3578358685 := (word_step tb 37 w37 w38 w46 w51).trans rfl
theorem w54 : word tb 54 = 600467822 := (word_step tb 38 w38 w39 w47 w52).trans rfl
theorem w55 : word tb 55 = 3702232564 := (word_step tb 39 w39 w40 w48 w53).trans rfl
theorem w56 : word tb 56 = 3868419969 := (word_step tb 40 w40 w41 w49 w54).trans rfl
theorem w57 : word tb 57 = 1230845418 := (word_step tb 41 w41 w42 w50 w55).trans rfl
theorem w58 : word tb 58 = 1369500673 := (word_step tb 42 w42 w43 w51 w56).trans rfl
theorem w59 : word tb 59 = 1165505681 := (word_step tb 43 w43 w44 w52 w57).trans rfl
theorem w60 : word tb 60 = 3029804626 := (word_step tb 44 w44 w45 w53 w58).trans rfl
theorem w61 : word tb 61 = 3722238860 := (word_step tb 45 w45 w46 w54 w59).trans rfl
theorem w62 : word tb 62 = 3963502664 := (word_step tb 46 w46 w47 w55 w60).trans rfl
theorem w63 : word tb 63 = 1311518612 := (word_step tb 47 w47 w48 w56 w61).trans rfl
theorem u0 : St.first.rounds tb 0 = ⟨1779033703, 3144134277, 1013904242, 2773480762, 1359893119, 2600822924, 528734635, 1541459225⟩ := rfl
theorem u1 : St.first.rounds tb 1 = ⟨1567295565, 1779033703, 3144134277, 1013904242, 4197081762, 1359893119, 2600822924, 528734635⟩ := (round_step _ tb 0 u0 w0).trans rfl
theorem u2 : St.first.rounds tb 2 = ⟨3771592872, 1567295565, 1779033703, 3144134277, 3904903575, 4197081762, 1359893119, 2600822924⟩ := (round_step _ tb 1 u1 w1).trans rfl
theorem u3 : St.first.rounds tb 3 = ⟨1244149001, 3771592872, 1567295565, 1779033703, 311372123, 3904903575, 4197081762, 1359893119⟩ := (round_step _ tb 2 u2 w2).trans rfl
theorem u4 : St.first.rounds tb 4 = ⟨3332301780, 1244149001, 3771592872, 1567295565, 2385191175, 311372123, 3904903575, 4197081762⟩ := (round_step _ tb 3 u3 w3).trans rfl
theorem u5 : St.first.rounds tb 5 = ⟨3636599127, 3332301780, 1244149001, 3771592872, 521228548, 2385191175, 311372123, 3904903575⟩ := (round_step _ tb 4 u4 w4).trans rfl
theorem u6 : St.first.rounds tb 6 = ⟨151833283, 3636599127, 3332301780, 1244149001, 3932515056, 521228548, 2385191175, 311372123⟩ := (round_step _ tb 5 u5 w5).trans rfl
theorem u7 : St.first.rounds tb 7 = ⟨3520778562, 151833283, 3636599127, 3332301780, 2885927810, 3932515056, 521228548, 2385191175⟩ := (round_step _ tb 6 u6 w6).trans rfl
theorem u8 : St.first.rounds tb 8 = ⟨2655857540, 3520778562, 151833283, 3636599127, 905708628, 2885927810, 3932515056, 521228548⟩ := (round_step _ tb 7 u7 w7).trans rfl
theorem u9 : St.first.rounds tb 9 = ⟨4057219706, 2655857540, 3520778562, 151833283, 3794789662, 905708628, 2885927810, 3932515056⟩ := (round_step _ tb 8 u8 w8).trans rfl
theorem u10 : St.first.rounds tb 10 = ⟨3376610011, 4057219706, 2655857540, 3520778562, 29887585, 3794789662, 905708628, 2885927810⟩ := (round_step _ tb 9 u9 w9).trans rfl
theorem u11 : St.first.rounds tb 11 = ⟨4181491042, 3376610011, 4057219706, 2655857540, 3261941830, 29887585, 3794789662, 905708628⟩ := (round_step _ tb 10 u10 w10).trans rfl
theorem u12 : St.first.rounds tb 12 = ⟨1858790193, 4181491042, 3376610011, 4057219706, 1863726812, 3261941830, 29887585, 3794789662⟩ := (round_step _ tb 11 u11 w11).trans rfl
theorem u13 : St.first.rounds tb 13 = ⟨199566772, 1858790193, 4181491042, 3376610011, 2864275867, 1863726812, 3261941830, 29887585⟩ := (round_step _ tb 12 u12 w12).trans rfl
theorem u14 : St.first.rounds tb 14 = ⟨371626581, 199566772, 1858790193, 4181491042, 3081593237, 2864275867, 1863726812, 3261941830⟩ := (round_step _ tb 13 u13 w13).trans rfl
theorem u15 : St.first.rounds tb 15 = ⟨1479292645, 371626581, 199566772, 1858790193, 4112109337, 3081593237, 2864275867, 1863726812⟩ := (round_step _ tb 14 u14 w14).trans rfl
theorem u16 : St.first.rounds tb 16 = ⟨1686594463, 1479292645, 371626581, 199566772, 1731442211, 4112109337, 3081593237, 2864275867⟩ := (round_step _ tb 15 u15 w15).trans rfl
theorem u17 : St.first.rounds tb 17 = ⟨3808100401, 1686594463, 1479292645, 371626581, 3261428162, 1731442211, 4112109337, 3081593237⟩ := (round_step _ tb 16 u16 w16).trans rfl
theorem u18 : St.first.rounds tb 18 = ⟨377016914, 3808100401, 1686594463, 1479292645, 918499731, 3261428162, 1731442211, 4112109337⟩ := (round_step _ tb 17 u17 w17).trans rfl
theorem u19 : St.first.rounds tb 19 = ⟨3565255831, 377016914, 3808100401, 1686594463, 3513426526, 918499731, 3261428162, 1731442211⟩ := (round_step _ tb 18 u18 w18).trans rfl
theorem u20 : St.first.rounds tb 20 = ⟨1319397705, 3565255831, 377016914, 3808100401, 3351631961, 3513426526, 918499731, 3261428162⟩ := (round_step _ tb 19 u19 w19).trans rfl
theorem u21 : St.first.rounds tb 21 = ⟨2383999480, 1319397705, 3565255831, 377016914, 2452434827, 3351631961, 3513426526, 918499731⟩ := (round_step _ tb 20 u20 w20).trans rfl
theorem u22 : St.first.rounds tb 22 = ⟨2905686982, 2383999480, 1319397705, 3565255831, 631500222, 2452434827, 3351631961, 3513426526⟩ := (round_step _ tb 21 u21 w21).trans rfl
theorem u23 : St.first.rounds tb 23 = ⟨3243406427, 2905686982, 2383999480, 1319397705, 2536336219, 631500222, 2452434827, 3351631961⟩ := (round_step _ tb 22 u22 w22).trans rfl
theorem u24 : St.first.rounds tb 24 = ⟨3796629245, 3243406427, 2905686982, 2383999480, 2290349548, 2536336219, 631500222, 2452434827⟩ := (round_step _ tb 23 u23 w23).trans rfl
theorem u25 : St.first.rounds tb 25 = ⟨3487408536, 3796629245, 3243406427, 2905686982, 2617050184, 2290349548, 2536336219, 631500222⟩ := (round_step _ tb 24 u24 w24).trans rfl
theorem u26 : St.first.rounds tb 26 = ⟨94234649, 3487408536, 3796629245, 3243406427, 2780545362, 2617050184, 2290349548, 2536336219⟩ := (round_step _ tb 25 u25 w25).trans rfl
theorem u27 : St.first.rounds tb 27 = ⟨1156166818, 94234649, 3487408536, 3796629245, 3360626021, 2780545362, 2617050184, 2290349548⟩ := (round_step _ tb 26 u26 w26).trans rfl
theorem u28 : St.first.rounds tb 28 = ⟨3480678056, 1156166818, 94234649, 3487408536, 3639247255, 3360626021, 2780545362, 2617050184⟩ := (round_step _ tb 27 u27 w27).trans rfl
theorem u29 : St.first.rounds tb 29 = ⟨1546931861, 3480678056, 1156166818, 94234649, 1223860325, 3639247255, 3360626021, 2780545362⟩ := (round_step _ tb 28 u28 w28).trans rfl
theorem u30 : St.first.rounds tb 30 = ⟨1331118160, 1546931861, 3480678056, 1156166818, 367170130, 1223860325, 3639247255, 3360626021⟩ := (round_step _ tb 29 u29 w29).trans rfl
theorem u31 : St.first.rounds tb 31 = ⟨1207172810, 1331118160, 1546931861, 3480678056, 4044388681, 367170130, 1223860325, 3639247255⟩ := (round_step _ tb 30 u30 w30).trans rfl
theorem u32 : St.first.rounds tb 32 = ⟨3627086696, 1207172810, 1331118160, 1546931861, 2950343182, 4044388681, 367170130, 1223860325⟩ := (round_step _ tb 31 u31 w31).trans rfl
theorem u33 : St.first.rounds tb 33 = ⟨546573902, 3627086696, 1207172810, 1331118160, 3201109086, 2950343182, 4044388681, 367170130⟩ := (round_step _ tb 32 u32 w32).trans rfl
theorem u34 : St.first.rounds tb 34 = ⟨473520161, 546573902, 3627086696, 1207172810, 2154977910, 3201109086, 2950343182, 4044388681⟩ := (round_step _ tb 33 u33 w33).trans rfl
theorem u35 : St.first.rounds tb 35 = ⟨1887836829, 473520161, 546573902, 3627086696, 1021545293, 2154977910, 3201109086, 2950343182⟩ := (round_step _ tb 34 u34 w34).trans rfl
theorem u36 : St.first.rounds tb 36 = ⟨1946675235, 1887836829, 473520161, 546573902, 2332314153, 1021545293, 2154977910, 3201109086⟩ := (round_step _ tb 35 u35 w35).trans rfl
theorem u37 : St.first.rounds tb 37 = ⟨2034328568, 1946675235, 1887836829, 473520161, 2719171134, 2332314153, 1021545293, 2154977910⟩ := (round_step _ tb 36 u36 w36).trans rfl
theorem u38 : St.first.rounds tb 38 = ⟨2892689888, 2034328568, 1946675235, 1887836829, 1417702456, 2719171134, 2332314153, 1021545293⟩ := (round_step _ tb 37 u37 w37).trans rfl
theorem u39 : St.first.rounds tb 39 = ⟨1769691782, 2892689888, 2034328568, 1946675235, 1306867109, 1417702456, 2719171134, 2332314153⟩ := (round_step _ tb 38 u38 w38).trans rfl
theorem u40 : St.first.rounds tb 40 = ⟨3972128353, 1769691782, 2892689888, 2034328568, 1414974918, 1306867109, 1417702456, 2719171134⟩ := (round_step _ tb 39 u39 w39).trans rfl
theorem u41 : St.first.rounds tb 41 = ⟨1653937629, 3972128353, 1769691782, 2892689888, 1612974288, 1414974918, 1306867109, 1417702456⟩ := (round_step _ tb 40 u40 w40).trans rfl
theorem u42 : St.first.rounds tb 42 = ⟨1432415604, 1653937629, 3972128353, 1769691782, 4141964346, 1612974288, 1414974918, 1306867109⟩ := (round_step _ tb 41 u41 w41).trans rfl
theorem u43 : St.first.rounds tb 43 = ⟨2720816116, 1432415604, 1653937629, 3972128353, 2845218806, 4141964346, 1612974288, 1414974918⟩ := (round_step _ tb 42 u42 w42).trans rfl
theorem u44 : St.first.rounds tb 44 = ⟨3022584952, 2720816116, 1432415604, 1653937629, 4169443278, 2845218806, 4141964346, 1612974288⟩ := (round_step _ tb 43 u43 w43).trans rfl
theorem u45 : St.first.rounds tb 45 = ⟨3264630472, 3022584952, 2720816116, 1432415604, 63171240, 4169443278, 2845218806, 4141964346⟩ := (round_step _ tb 44 u44 w44).trans rfl
theorem u46 : St.first.rounds tb 46 = ⟨3788923304, 3264630472, 3022584952, 2720816116, 1966230554, 63171240, 4169443278, 2845218806⟩ := (round_step _ tb 45 u45 w45).trans rfl
theorem u47 : St.first.rounds tb 47 = ⟨1072399976, 3788923304, 3264630472, 3022584952, 2496479254, 1966230554, 63171240, 4169443278⟩ := (round_step _ tb 46 u46 w46).trans rfl
theorem u48 : St.first.rounds tb 48 = ⟨2364285374, 1072399976, 3788923304, 3264630472, 3399227669, 2496479254, 1966230554, 63171240⟩ := (round_step _ tb 47 u47 w47).trans rfl
theorem u49 : St.first.rounds tb 49 = ⟨3021842557, 2364285374, 1072399976, 3788923304, 2860269664, 3399227669, 2496479254, 1966230554⟩ := (round_step _ tb 48 u48 w48).trans rfl
theorem u50 : St.first.rounds tb 50 = ⟨296396287, 3021842557, 2364285374, 1072399976, 3729271561, 2860269664, 3399227669, 2496479254⟩ := (round_step _ tb 49 u49 w49).trans rfl
theorem u51 : St.first.rounds tb 51 = ⟨1724366874, 296396287, 3021842557, 2364285374, 3506490391, 3729271561, 2860269664, 3399227669⟩ := (round_step _ tb 50 u50 w50).trans rfl
theorem u52 : St.first.rounds tb 52 = ⟨2305248929, 1724366874, 296396287, 3021842557, 1533091901, 3506490391, 3729271561, 2860269664⟩ := (round_step _ tb 51 u51 w51).trans rfl
theorem u53 : St.first.rounds tb 53 = ⟨1261157241, 2305248929, 1724366874, 296396287, 1928495236, 1533091901, 3506490391, 3729271561⟩ := (round_step _ tb 52 u52 w52).trans rfl
theorem u54 : St.first.rounds tb 54 = ⟨3240460378, 1261157241, 2305248929, 1724366874, 1601898865, 1928495236, 1533091901, 3506490391⟩ := (round_step _ tb 53 u53 w53).trans rfl
theorem u55 : St.first.rounds tb 55 = ⟨3883034754, 3240460378, 1261157241, 2305248929, 1618254821, 1601898865, 1928495236, 1533091901⟩ := (round_step _ tb 54 u54 w54).trans rfl
theorem u56 : St.first.rounds tb 56 = ⟨3189420121, 3883034754, 3240460378, 1261157241, 1341434994, 1618254821, 1601898865, 1928495236⟩ := (round_step _ tb 55 u55 w55).trans rfl
theorem u57 : St.first.rounds tb 57 = ⟨1248977900, 3189420121, 3883034754, 3240460378, 652264656, 1341434994, 1618254821, 1601898865⟩ := (round_step _ tb 56 u56 w56).trans rfl
theorem u58 : St.first.rounds tb 58 = ⟨3428054140, 1248977900, 3189420121, 3883034754, 3566533041, 652264656, 1341434994, 1618254821⟩ := (round_step _ tb 57 u57 w57).trans rfl
theorem u59 : St.first.rounds tb 59 = ⟨2940877708, 3428054140, 1248977900, 3189420121, 3913631457, 3566533041, 652264656, 1341434994⟩ := (round_step _ tb 58 u58 w58).trans rfl
theorem u60 : St.first.rounds tb 60 = ⟨2411834110, 2940877708, 3428054140, 1248977900, 2687410524, 3913631457, 3566533041, 652264656⟩ := (round_step _ tb 59 u59 w59).trans rfl
theorem u61 : St.first.rounds tb 61 = ⟨822279815, 2411834110, 2940877708, 3428054140, 4185995498, 2687410524, 3913631457, 3566533041⟩ := (round_step _ tb 60 u60 w60).trans rfl
theorem u62 : St.first.rounds tb 62 = ⟨1341247529, 822279815, 2411834110, 2940877708, 964681381, 4185995498, 2687410524, 3913631457⟩ := (round_step _ tb 61 u61 w61).trans rfl
theorem u63 : St.first.rounds tb 63 = ⟨1927581855, 1341247529, 822279815, 2411834110, 4235600577, 964681381, 4185995498, 2687410524⟩ := (round_step _ tb 62 u62 w62).trans rfl
theorem u64 : St.first.rounds tb 64 = ⟨2441362069, 1927581855, 1341247529, 822279815, 3814999612, 4235600577, 964681381, 4185995498⟩ := (round_step _ tb 63 u63 w63).trans rfl
theorem shown2 : St.first.compress tb = ⟨4220395772, 776748836, 2355151771, 3595760577, 879925435, 2541456205, 1493416016, 1432487427⟩ := by
  unfold St.compress
  rw [u64]
  rfl
end Sha.Two
namespace Sha
theorem sum_one (m : List UInt8) (l : List Nat) (h : ((m ++ endOf m.length).map UInt8.toNat) = l) (hl : l.length = 64) : sumOf m = St.first.compress (fun i => l.getD i 0) := by
  have hlen : (m ++ endOf m.length).length = 64 := by rw [← hl, ← h, List.length_map]
  unfold sumOf
  rw [hlen]
  show (St.first.after (m ++ endOf m.length) 0).compress _ = _
  refine St.compress_congr _ (fun i hi => ?_)
  unfold byteOf
  have hi' : i < (m ++ endOf m.length).length := by omega
  rw [← h, List.getD_eq_getElem?_getD, List.getD_eq_getElem?_getD, List.getElem?_map, Nat.mul_zero, Nat.zero_add, List.getElem?_eq_getElem hi']
  rfl
theorem sum_abc : sumOf [97, 98, 99] = ⟨3128432319, 2399260650, 1094795486, 1571693091, 2953011619, 2518121116, 3021012833, 4060091821⟩ := by
  rw [sum_one [97, 98, 99] abc (by rfl) (by rfl)]
  exact shown
theorem sum_ab : sumOf [97, 98] = ⟨4220395772, 776748836, 2355151771, 3595760577, 879925435, 2541456205, 1493416016, 1432487427⟩ := by
  rw [sum_one [97, 98] Two.two (by rfl) (by rfl)]
  exact Two.shown2
end Sha
/- The head of the Digest laws: a sum is known. -/
set_option linter.unusedVariables false
set_option linter.unusedSimpArgs false
namespace Go.Proofs.YtfafidholldjlaaDoor
open Go.RowKit
/-- What the listed variables hold, errors.errorType among them. -/
structure DGlob (B : Nat) (aw ab : Addr) (w : World) : Prop where
  glob : Glob B aw ab w
  et : w.cell? ⟨4, 0, none⟩ = some (.iface 157 (.agg #[.pointer (some ⟨6, 67, none⟩)]))
theorem DGlob.below {B : Nat} {aw ab : Addr} {w w' : World} (h : DGlob B aw ab w) (hb : Below B w w') : DGlob B aw ab w' :=
  ⟨h.glob.below hb, (hb.cell (p := ⟨4, 0, none⟩) (show (4 : Nat) < B by have := h.glob.six; omega)).trans h.et⟩
theorem DGlob.four {B : Nat} {aw ab : Addr} {w : World} (h : DGlob B aw ab w) : 4 < w.heap.size := by have := h.glob.pos; omega
theorem sha_abc_front : (shaBytes [97, 98, 99]).extract 0 4 = ⟨#[186, 120, 22, 191]⟩ := by
  unfold shaBytes
  rw [Sha.sum_abc]
  rfl
theorem sha_abc_ab : ((shaBytes [97, 98]).toList == (shaBytes [97, 98, 99]).toList) = false := by
  rw [ByteArray.toList_eq, ByteArray.toList_eq]
  unfold shaBytes
  rw [Sha.sum_abc, Sha.sum_ab]
  rfl
set_option maxRecDepth 100000 in
set_option maxHeartbeats 1000000 in
theorem dshown_any {B : Nat} {aw ab : Addr} {w : World} (hG : DGlob B aw ab w) : Calls Tryd.prog 36 #[] w fun e w' => e = .returned (.bool true) ∧ Below w.heap.size w w' := by
  have HG := Lib.hid hG
  obtain ⟨b3, hb3⟩ : ∃ b, shaBytes [97, 98, 99] = b := ⟨_, rfl⟩
  obtain ⟨b2, hb2⟩ : ∃ b, shaBytes [97, 98] = b := ⟨_, rfl⟩
  have hs3 : b3.size = 32 := by rw [← hb3]; exact shaBytes_size _
  have hx3 : b3.extract 0 4 = ⟨#[186, 120, 22, 191]⟩ := by rw [← hb3]; exact sha_abc_front
  have hne : (b2.toList == b3.toList) = false := by rw [← hb3, ← hb2]; exact sha_abc_ab
  have H3 := Lib.hid hb3
  have H2 := Lib.hid hb2
  have HS3 := Lib.hid hs3
  have HX3 := Lib.hid hx3
  have HNE := Lib.hid hne
  have HB : Hid (Below w.heap.size w w) := Lib.hid (Below.refl _ _)
  clear hG hb3 hb2 hs3 hx3 hne
  go_enter Tryd.func36, Tryd.ntmps36
  go_wp2_with fail
  refine (dsum_ok HG.out.glob ⟨#[97, 98, 99]⟩ (by decide)).mono ?_
  rintro e w1 ⟨rfl, hb1⟩
  rw [show (⟨#[97, 98, 99]⟩ : ByteArray).data.toList = [97, 98, 99] from rfl, H3.out]
  have HB1 := Lib.hid hb1
  clear hb1 HB
  go_wp2_with fail
  refine (new_any _).mono ?_
  rintro e w2 ⟨h, rfl, hh, hr, hb2⟩
  have hbh : w.heap.size ≤ h := Nat.le_trans HB1.out.size hh
  have HN := Lib.hid (hasher_new hr)
  have HB2 := Lib.hid (HB1.out.trans (hb2.mono HB1.out.size))
  clear hr hb2
  go_wp2_with fail
  refine (write_ok (HG.out.glob.below (HB2.out.mono HG.out.glob.size)) h (Nat.le_trans HG.out.glob.size hbh) [] ⟨#[97, 98]⟩ HN.out (by decide)).mono ?_
  rintro e w3 ⟨rfl, hm3, hf3⟩
  have HM3 : Hid (HasherAt w3 h [97, 98]) := Lib.hid hm3
  have HB3 := Lib.hid (HB2.out.trans (hf3.to_below HB2.out.size (by omega)))
  clear hm3 hf3
  go_wp2_with fail
  refine (hsum_any (HG.out.glob.below (HB3.out.mono HG.out.glob.size)) h (Nat.le_trans HG.out.glob.size hbh) _ HM3.out (by decide)).mono ?_
  rintro e w4 ⟨rfl, hm4, hf4⟩
  rw [H2.out]
  have HM4 := Lib.hid hm4
  have HB4 := Lib.hid (HB3.out.trans (hf4.to_below HB3.out.size (by omega)))
  clear hm4 hf4
  go_wp2_with fail
  refine (write_ok (HG.out.glob.below (HB4.out.mono HG.out.glob.size)) h (Nat.le_trans HG.out.glob.size hbh) [97, 98] ⟨#[99]⟩ HM4.out (by decide)).mono ?_
  rintro e w5 ⟨rfl, hm5, hf5⟩
  have HM5 : Hid (HasherAt w5 h [97, 98, 99]) := Lib.hid hm5
  have HB5 := Lib.hid (HB4.out.trans (hf5.to_below HB4.out.size (by omega)))
  clear hm5 hf5
  go_wp2_with fail
  refine (hsum_any (HG.out.glob.below (HB5.out.mono HG.out.glob.size)) h (Nat.le_trans HG.out.glob.size hbh) _ HM5.out (by decide)).mono ?_
  rintro e w6 ⟨rfl, hm6, hf6⟩
  rw [H3.out]
  have HM6 := Lib.hid hm6
  have HB6 := Lib.hid (HB5.out.trans (hf6.to_below HB5.out.size (by omega)))
  clear hm6 hf6
  go_wp2_with fail
  refine (endOk_any 55 (by decide) _).mono ?_
  rintro e w7 ⟨rfl, hb7⟩
  have hm7 : HasherAt w7 h [97, 98, 99] := by
    obtain ⟨v, r1, r2⟩ := HM6.out
    exact ⟨v, (hb7.block h (lt_of_heap r1)).trans r1, r2.far (Far.of_below hb7 _)⟩
  have HM7 := Lib.hid hm7
  have HB7 := Lib.hid (HB6.out.trans (hb7.mono HB6.out.size))
  have hz55 : (⟨(Sha.endOf 55).toArray⟩ : ByteArray).size = 9 := by rfl
  generalize (⟨(Sha.endOf 55).toArray⟩ : ByteArray) = e55 at hz55 ⊢
  have HZ := Lib.hid hz55
  clear hm7 hb7
  go_wp2_with fail
  refine (endBad_any 100001 (by decide) _ (HG.out.below (HB7.out.mono HG.out.glob.size)).et (HG.out.below (HB7.out.mono HG.out.glob.size)).four).mono ?_
  rintro e w8 ⟨rfl, hb8⟩
  have hm8 : HasherAt w8 h [97, 98, 99] := by
    obtain ⟨v, r1, r2⟩ := HM7.out
    exact ⟨v, (hb8.block h (lt_of_heap r1)).trans r1, r2.far (Far.of_below hb8 _)⟩
  have HM8 := Lib.hid hm8
  have HB8 := Lib.hid (HB7.out.trans (hb8.mono HB7.out.size))
  have hs3 := HS3.out
  have hx3 := HX3.out
  have hne := HNE.out
  clear hm8 hb8
  go_wp2_with fail
  obtain ⟨v, r1, r2⟩ := HM8.out
  have R1 := Lib.hid r1
  clear r1 r2 hs3 hx3 hne hz55
  refine (len_any h v _ _ _ R1.out).mono ?_
  rintro e w9 ⟨rfl, rfl⟩
  have hs3 := HS3.out
  have hx3 := HX3.out
  have hne := HNE.out
  have hz55 := HZ.out
  have hl3 : ((([97, 98, 99] : List UInt8).length : Nat) : Int) = 3 := rfl
  rw [hl3]
  clear hl3
  go_wp2_with fail
  go_ret
  exact ⟨rfl, HB8.out⟩
end Go.Proofs.YtfafidholldjlaaDoor
/- The first three hundred bytes of a text; a long text. -/
set_option linter.unusedVariables false
set_option linter.unusedSimpArgs false
namespace Go.Proofs.YtfafidholldjlaaDoor
open Go.RowKit
theorem dcut_any (s : ByteArray) (hs : s.size ≤ maxLen) (w : World) : Calls Tryd.prog 37 #[.string s] w fun e w' => e = .returned (.string (front s 300)) ∧ w = w' := by
  have h0 : (s.size : Int) ≤ 9223372036854775807 := by unfold maxLen at hs; omega
  by_cases h : 300 < (s.size : Int)
  · have e : s.extract 0 300 = front s 300 := by
      apply ByteArray.ext
      apply Array.toList_inj.1
      simp [front]
    have E := Lib.hid e
    clear e
    go_enter Tryd.func37, Tryd.ntmps37
    go_wp2_with fail
    rw [E.out]
    go_ret
    exact ⟨rfl, rfl⟩
  · have e : front s 300 = s := front_all s 300 (by omega)
    have E := Lib.hid e
    clear e
    have h2 : (s.size : Int) ≤ 300 := by omega
    go_enter Tryd.func37, Tryd.ntmps37
    go_wp2_with fail
    go_ret
    exact ⟨by rw [E.out]; rfl, rfl⟩
theorem front_300 (s : ByteArray) : (front s 300).size ≤ 300 := by
  show (s.data.toList.take 300).toArray.size ≤ 300
  simp
  omega
def zeroText (n : Nat) : ByteArray := ⟨(List.replicate n (0 : UInt8)).toArray⟩
theorem zeroText_size (n : Nat) : (zeroText n).size = n := by
  show (List.replicate n (0 : UInt8)).toArray.size = n
  simp
theorem conv_zero (n : Nat) (W : World) (g : Nat) (h : W.heap[g]? = some (.cells (List.replicate n (Value.int .u8 0)).toArray 5 (0, 0))) :
    (convert 40 9 (.slice (some ⟨g, 0, none⟩) n n)).run Tryd.prog W = .ok (.string (zeroText n)) W := by
  have hx := run_convert_bytes_back (P := Tryd.prog) W 40 9 5 ⟨g, 0, none⟩ n (List.replicate n (0 : UInt8)) Tryd.underlying40 Tryd.underlying5 Tryd.underlying9 (fun j hj => by
    rw [Addr.add_lit, Nat.zero_add, cell_of h j]
    have hj' : j < n := by simpa using hj
    simp [hj'])
  rw [List.length_replicate] at hx
  exact hx
theorem long_any (w : World) : Calls Tryd.prog 50 #[] w fun e w' => e = .returned (.string (zeroText 100001)) ∧ Below w.heap.size w w' := by
  have hmk := make_bytes 100001 (by decide) 100001 (by rfl)
  have hcv := conv_zero 100001 (w.alloc (.cells (List.replicate 100001 (Value.int .u8 0)).toArray 5)) w.heap.size (alloc_heap _ _)
  generalize (List.replicate 100001 (Value.int .u8 0)).toArray = M at hmk hcv
  generalize zeroText 100001 = z at hcv ⊢
  go_enter Tryd.func50, Tryd.ntmps50
  go_wp2_with fail
  go_ret
  exact ⟨rfl, (Below.refl _ _).alloc (Nat.le_refl _) _⟩
end Go.Proofs.YtfafidholldjlaaDoor
/- Two hashers beside each other. -/
set_option linter.unusedVariables false
set_option linter.unusedSimpArgs false
namespace Go.Proofs.YtfafidholldjlaaDoor
open Go.RowKit
theorem hrow_no_byte (sp : Option Addr) (k cap : Nat) (s : Sha.St) (n : Int) (j : Nat) (x : Int) : (hrow (.slice sp k cap) s n)[j]? ≠ some (.int .u8 x) := by
  match j with
  | 0 => simp [hrow]
  | 1 => simp [hrow]
  | 2 => simp [hrow]
  | 3 => simp [hrow]
  | 4 => simp [hrow]
  | 5 => simp [hrow]
  | 6 => simp [hrow]
  | 7 => simp [hrow]
  | 8 => simp [hrow]
  | 9 => simp [hrow]
  | j + 10 => simp [hrow]
/-- What is written to one hasher changes no other. -/
theorem HasherAt.other {W W' : World} {x y : Nat} {m q : List UInt8} (hx : HasherAt W x m) (hy : HasherAt W y q) (hne : x ≠ y) (hf : Far (· = y) W W') : HasherAt W' x m := by
  obtain ⟨v, r1, sp, cap, rfl, hp⟩ := hx
  obtain ⟨v2, r2, sp2, cap2, rfl, hp2⟩ := hy
  refine ⟨_, hf.heap r1 hne, sp, cap, rfl, fun h0 => ?_⟩
  obtain ⟨g, o, e1, e2, e3, e4, e5⟩ := hp h0
  have hgy : g ≠ y := by
    intro e
    subst e
    obtain ⟨b, hb⟩ : ∃ b, (m.drop (64 * (m.length / 64)))[0]? = some b := ⟨_, List.getElem?_eq_getElem h0⟩
    have h5 := e5 0 (.int .u8 (b.toNat : Int)) (by simp only [byteCells, List.getElem?_map, hb, Option.map_some])
    rw [cell_of r2] at h5
    exact hrow_no_byte _ _ _ _ _ _ _ h5
  exact ⟨g, o, e1, Nat.lt_of_lt_of_le e2 hf.size, e3, e4, fun j u hj => (hf.cell (p := ⟨g, o + j, none⟩) e2 hgy).trans (e5 j u hj)⟩
theorem HasherAt.keep {W W' : World} {h : Nat} {m : List UInt8} (hm : HasherAt W h m) (hb : Below W.heap.size W W') : HasherAt W' h m := hm.far (Far.of_below hb NoneD) (fun _ e => e)
end Go.Proofs.YtfafidholldjlaaDoor
/- What the rows of law02 lay: errors.errorType besides. -/
set_option linter.unusedVariables false
set_option linter.unusedSimpArgs false
namespace Go.Proofs.YtfafidholldjlaaDoor
open Go.ChangeShapes Go.WideShapes Go.ChangeAt Go.RowKit
theorem g4 : Tryd.prog.globalNamed "errors.errorType" = some 4 := by kernel_rfl
theorem rtypeT : (Tryd.prog.cutTypes.find? (·.1 == "internal/reflectlite.rtype")).map (·.2) = some 157 := by kernel_rfl
theorem typesN : Tryd.prog.types.size = 203 := by kernel_rfl
theorem oneError : ((List.range 203).filter fun t => Tryd.prog.rowNamed t [101, 114, 114, 111, 114]) = [67] := by kernel_rfl
theorem dglob_of {W : World} (hs : W.ShapedOpen Tryd.prog) (h : laidMetH Tryd.prog Rows.digestTwoRow.laid W) : ∃ aw ab, DGlob W.heap.size aw ab W := by
  have f1 : (Rows.digestTwoRow.laid.filter fun x => x.2.handleName?.isSome) = [("errors.errorType", Rows.laid_errors_errorType)] := by rfl
  have f2 : (Rows.digestTwoRow.laid.filter fun x => x.2.handleName?.isNone) = [("sigillary/rounds.errBlock", Rows.laid_sigillary_rounds_errBlock), ("sigillary/rounds.errWord", Rows.laid_sigillary_rounds_errWord), ("sigillary/rounds.constants", Rows.laid_sigillary_rounds_constants)] := by rfl
  unfold laidMetH at h
  rw [f1, f2] at h
  have h' := h
  obtain ⟨aw, ab, hg⟩ := glob_of hs h'.1
  refine ⟨aw, ab, hg, ?_⟩
  obtain ⟨name, u, ty, e1, e2, e3, e4, e5⟩ := h'.2 _ (List.mem_cons_self ..)
  have en : name = [101, 114, 114, 111, 114] := (Option.some.inj e1).symm
  subst en
  obtain rfl := Option.some.inj (rtypeT.symm.trans e2)
  have hm : ty ∈ (List.range 203).filter fun t => Tryd.prog.rowNamed t [101, 114, 114, 111, 114] := List.mem_filter.2 ⟨List.mem_range.2 (by rw [← typesN]; exact e3), e4⟩
  rw [oneError] at hm
  obtain rfl := List.mem_singleton.1 hm
  have hh : typeHandle Tryd.prog 67 = .pointer (some ⟨6, 67, none⟩) := by kernel_rfl
  rw [hh] at e5
  simpa using World.var?_cell g4 e5 0
noncomputable def laidWorldE (os : Os) : World :=
  let w0 := laidWorld os
  { w0 with heap := w0.heap.modify 4 fun
      | .cells _ t frozen => .cells #[.iface 157 (.agg #[.pointer (some ⟨6, 67, none⟩)])] t frozen
      | o => o }
theorem laid_met_two (os : Os) (args : Array Value) : laidMetH Tryd.prog Rows.digestTwoRow.laid ((laidWorldE os).forCall (fun _ _ => 0) ⟨#[], args, []⟩).memory :=
  laidMetH_of_parts (laidMet_of_run' 8 (by kernel_rfl) (by kernel_rfl)) (by kernel_rfl)
end Go.Proofs.YtfafidholldjlaaDoor
