/- The state of the block of two letters, evaluated word by word; the sums of two and of three letters. -/
import Derived.Test.YtfafidholldjlaaDoorDspec
set_option linter.unusedVariables false
set_option linter.unusedSimpArgs false
namespace Sha.Two
def two : List Nat := [97, 98, 128, 0, 0, 0, 0, 0, 0, 0, 0, 0, 0, 0, 0, 0, 0, 0, 0, 0, 0, 0, 0, 0, 0, 0, 0, 0, 0, 0, 0, 0, 0, 0, 0, 0, 0, 0, 0, 0, 0, 0, 0, 0, 0, 0, 0, 0, 0, 0, 0, 0, 0, 0, 0, 0, 0, 0, 0, 0, 0, 0, 0, 16]
def tb (i : Nat) : Nat := two.getD i 0
theorem w0 : word tb 0 = 1633845248 := rfl
theorem w1 : word tb 1 = 0 := rfl
theorem w2 : word tb 2 = 0 := rfl
theorem w3 : word tb 3 = 0 := rfl
theorem w4 : word tb 4 = 0 := rfl
theorem w5 : word tb 5 = 0 := rfl
theorem w6 : word tb 6 = 0 := rfl
theorem w7 : word tb 7 = 0 := rfl
theorem w8 : word tb 8 = 0 := rfl
theorem w9 : word tb 9 = 0 := rfl
theorem w10 : word tb 10 = 0 := rfl
theorem w11 : word tb 11 = 0 := rfl
theorem w12 : word tb 12 = 0 := rfl
theorem w13 : word tb 13 = 0 := rfl
theorem w14 : word tb 14 = 0 := rfl
theorem w15 : word tb 15 = 16 := rfl
theorem w16 : word tb 16 = 1633845248 := (word_step tb 0 w0 w1 w9 w14).trans rfl
theorem w17 : word tb 17 = 655360 := (word_step tb 1 w1 w2 w10 w15).trans rfl
theorem w18 : word tb 18 = 270033981 := (word_step tb 2 w2 w3 w11 w16).trans rfl
theorem w19 : word tb 19 = 1073742468 := (word_step tb 3 w3 w4 w12 w17).trans rfl
theorem w20 : word tb 20 = 1050487830 := (word_step tb 4 w4 w5 w13 w18).trans rfl
theorem w21 : word tb 21 = 16951296 := (word_step tb 5 w5 w6 w14 w19).trans rfl
theorem w22 : word tb 22 = 864452582 := (word_step tb 6 w6 w7 w15 w20).trans rfl
theorem w23 : word tb 23 = 1650638859 := (word_step tb 7 w7 w8 w16 w21).trans rfl
theorem w24 : word tb 24 = 4027399724 := (word_step tb 8 w8 w9 w17 w22).trans rfl
theorem w25 : word tb 25 = 1211410954 := (word_step tb 9 w9 w10 w18 w23).trans rfl
theorem w26 : word tb 26 = 2028988364 := (word_step tb 10 w10 w11 w19 w24).trans rfl
theorem w27 : word tb 27 = 4277374028 := (word_step tb 11 w11 w12 w20 w25).trans rfl
theorem w28 : word tb 28 = 268710035 := (word_step tb 12 w12 w13 w21 w26).trans rfl
theorem w29 : word tb 29 = 3944143914 := (word_step tb 13 w13 w14 w22 w27).trans rfl
theorem w30 : word tb 30 = 549890843 := (word_step tb 14 w14 w15 w23 w28).trans rfl
theorem w31 : word tb 31 = 1386658034 := (word_step tb 15 w15 w16 w24 w29).trans rfl
theorem w32 : word tb 32 = 2860467165 := (word_step tb 16 w16 w17 w25 w30).trans rfl
theorem w33 : word tb 33 = 1704602302 := (word_step tb 17 w17 w18 w26 w31).trans rfl
theorem w34 : word tb 34 = 1491927166 := (word_step tb 18 w18 w19 w27 w32).trans rfl
theorem w35 : word tb 35 = 12639368 := (word_step tb 19 w19 w20 w28 w33).trans rfl
theorem w36 : word tb 36 = 4093457531 := (word_step tb 20 w20 w21 w29 w34).trans rfl
theorem w37 : word tb 37 = 3985429324 := (word_step tb 21 w21 w22 w30 w35).trans rfl
theorem w38 : word tb 38 = 1833301693 := (word_step tb 22 w22 w23 w31 w36).trans rfl
theorem w39 : word tb 39 = 155258341 := (word_step tb 23 w23 w24 w32 w37).trans rfl
theorem w40 : word tb 40 = 3528335737 := (word_step tb 24 w24 w25 w33 w38).trans rfl
theorem w41 : word tb 41 = 3062717792 := (word_step tb 25 w25 w26 w34 w39).trans rfl
theorem w42 : word tb 42 = 3012079207 := (word_step tb 26 w26 w27 w35 w40).trans rfl
theorem w43 : word tb 43 = 539425273 := (word_step tb 27 w27 w28 w36 w41).trans rfl
theorem w44 : word tb 44 = 1076043381 := (word_step tb 28 w28 w29 w37 w42).trans rfl
theorem w45 : word tb 45 = 2496143508 := (word_step tb 29 w29 w30 w38 w43).trans rfl
theorem w46 : word tb 46 = 1471727768 := (word_step tb 30 w30 w31 w39 w44).trans rfl
theorem w47 : word tb 47 = 3093250499 := (word_step tb 31 w31 w32 w40 w45).trans rfl
theorem w48 : word tb 48 = 3643758778 := (word_step tb 32 w32 w33 w41 w46).trans rfl
theorem w49 : word tb 49 = 432964173 := (word_step tb 33 w33 w34 w42 w47).trans rfl
theorem w50 : word tb 50 = 3888910579 := (word_step tb 34 w34 w35 w43 w48).trans rfl
theorem w51 : word tb 51 = 1993602963 := (word_step tb 35 w35 w36 w44 w49).trans rfl
theorem w52 : word tb 52 = 3286075862 := (word_step tb 36 w36 w37 w45 w50).trans rfl
theorem w53 : word tb 53 = 3578358685 := (word_step tb 37 w37 w38 w46 w51).trans rfl
theorem w54 : word tb 54 = 600467822 := (word_step tb 38 w38 w39 w47 w52).trans rfl
theorem w55 : word tb 55 = 3702232564 := (word_step tb 39 w39 w40 w48 w53).trans rfl
theorem w56 : word tb 56 = 3868419969 := (word_step tb 40 w40 w41 w49 w54).trans rfl
theorem w57 : word tb 57 = 1230845418 := (word_step tb 41 w41 w42 w50 w55).trans rfl
theorem w58 : word tb 58 = 1369500673 := (word_step tb 42 w42 w43 w51 w56).trans rfl
theorem w59 : word tb 59 = 1165505681 := (word_step tb 43 w43 w44 w52 w57).trans rfl
theorem w60 : word tb 60 = 3029804626 := (word_step tb 44 w44 w45 w53 w58).trans rfl
theorem w61 : word tb 61 = 3722238860 := (word_step tb 45 w45 w46 w54 w59).trans rfl
theorem w62 : word tb 62 = 3963502664 := (word_step tb 46 w46 w47 w55 w60).trans rfl
theorem w63 : word tb 63 = 1311518612 := (word_step tb 47 w47 w48 w56 w61).trans rfl
theorem u0 : St.first.rounds tb 0 = ⟨1779033703, 3144134277, 1013904242, 2773480762, 1359893119, 2600822924, 528734635, 1541459225⟩ := rfl
theorem u1 : St.first.rounds tb 1 = ⟨1567295565, 1779033703, 3144134277, 1013904242, 4197081762, 1359893119, 2600822924, 528734635⟩ := (round_step _ tb 0 u0 w0).trans rfl
theorem u2 : St.first.rounds tb 2 = ⟨3771592872, 1567295565, 1779033703, 3144134277, 3904903575, 4197081762, 1359893119, 2600822924⟩ := (round_step _ tb 1 u1 w1).trans rfl
theorem u3 : St.first.rounds tb 3 = ⟨1244149001, 3771592872, 1567295565, 1779033703, 311372123, 3904903575, 4197081762, 1359893119⟩ := (round_step _ tb 2 u2 w2).trans rfl
theorem u4 : St.first.rounds tb 4 = ⟨3332301780, 1244149001, 3771592872, 1567295565, 2385191175, 311372123, 3904903575, 4197081762⟩ := (round_step _ tb 3 u3 w3).trans rfl
theorem u5 : St.first.rounds tb 5 = ⟨3636599127, 3332301780, 1244149001, 3771592872, 521228548, 2385191175, 311372123, 3904903575⟩ := (round_step _ tb 4 u4 w4).trans rfl
theorem u6 : St.first.rounds tb 6 = ⟨151833283, 3636599127, 3332301780, 1244149001, 3932515056, 521228548, 2385191175, 311372123⟩ := (round_step _ tb 5 u5 w5).trans rfl
theorem u7 : St.first.rounds tb 7 = ⟨3520778562, 151833283, 3636599127, 3332301780, 2885927810, 3932515056, 521228548, 2385191175⟩ := (round_step _ tb 6 u6 w6).trans rfl
theorem u8 : St.first.rounds tb 8 = ⟨2655857540, 3520778562, 151833283, 3636599127, 905708628, 2885927810, 3932515056, 521228548⟩ := (round_step _ tb 7 u7 w7).trans rfl
theorem u9 : St.first.rounds tb 9 = ⟨4057219706, 2655857540, 3520778562, 151833283, 3794789662, 905708628, 2885927810, 3932515056⟩ := (round_step _ tb 8 u8 w8).trans rfl
theorem u10 : St.first.rounds tb 10 = ⟨3376610011, 4057219706, 2655857540, 3520778562, 29887585, 3794789662, 905708628, 2885927810⟩ := (round_step _ tb 9 u9 w9).trans rfl
theorem u11 : St.first.rounds tb 11 = ⟨4181491042, 3376610011, 4057219706, 2655857540, 3261941830, 29887585, 3794789662, 905708628⟩ := (round_step _ tb 10 u10 w10).trans rfl
theorem u12 : St.first.rounds tb 12 = ⟨1858790193, 4181491042, 3376610011, 4057219706, 1863726812, 3261941830, 29887585, 3794789662⟩ := (round_step _ tb 11 u11 w11).trans rfl
theorem u13 : St.first.rounds tb 13 = ⟨199566772, 1858790193, 4181491042, 3376610011, 2864275867, 1863726812, 3261941830, 29887585⟩ := (round_step _ tb 12 u12 w12).trans rfl
theorem u14 : St.first.rounds tb 14 = ⟨371626581, 199566772, 1858790193, 4181491042, 3081593237, 2864275867, 1863726812, 3261941830⟩ := (round_step _ tb 13 u13 w13).trans rfl
theorem u15 : St.first.rounds tb 15 = ⟨1479292645, 371626581, 199566772, 1858790193, 4112109337, 3081593237, 2864275867, 1863726812⟩ := (round_step _ tb 14 u14 w14).trans rfl
theorem u16 : St.first.rounds tb 16 = ⟨1686594463, 1479292645, 371626581, 199566772, 1731442211, 4112109337, 3081593237, 2864275867⟩ := (round_step _ tb 15 u15 w15).trans rfl
theorem u17 : St.first.rounds tb 17 = ⟨3808100401, 1686594463, 1479292645, 371626581, 3261428162, 1731442211, 4112109337, 3081593237⟩ := (round_step _ tb 16 u16 w16).trans rfl
theorem u18 : St.first.rounds tb 18 = ⟨377016914, 3808100401, 1686594463, 1479292645, 918499731, 3261428162, 1731442211, 4112109337⟩ := (round_step _ tb 17 u17 w17).trans rfl
theorem u19 : St.first.rounds tb 19 = ⟨3565255831, 377016914, 3808100401, 1686594463, 3513426526, 918499731, 3261428162, 1731442211⟩ := (round_step _ tb 18 u18 w18).trans rfl
theorem u20 : St.first.rounds tb 20 = ⟨1319397705, 3565255831, 377016914, 3808100401, 3351631961, 3513426526, 918499731, 3261428162⟩ := (round_step _ tb 19 u19 w19).trans rfl
theorem u21 : St.first.rounds tb 21 = ⟨2383999480, 1319397705, 3565255831, 377016914, 2452434827, 3351631961, 3513426526, 918499731⟩ := (round_step _ tb 20 u20 w20).trans rfl
theorem u22 : St.first.rounds tb 22 = ⟨2905686982, 2383999480, 1319397705, 3565255831, 631500222, 2452434827, 3351631961, 3513426526⟩ := (round_step _ tb 21 u21 w21).trans rfl
theorem u23 : St.first.rounds tb 23 = ⟨3243406427, 2905686982, 2383999480, 1319397705, 2536336219, 631500222, 2452434827, 3351631961⟩ := (round_step _ tb 22 u22 w22).trans rfl
theorem u24 : St.first.rounds tb 24 = ⟨3796629245, 3243406427, 2905686982, 2383999480, 2290349548, 2536336219, 631500222, 2452434827⟩ := (round_step _ tb 23 u23 w23).trans rfl
theorem u25 : St.first.rounds tb 25 = ⟨3487408536, 3796629245, 3243406427, 2905686982, 2617050184, 2290349548, 2536336219, 631500222⟩ := (round_step _ tb 24 u24 w24).trans rfl
theorem u26 : St.first.rounds tb 26 = ⟨94234649, 3487408536, 3796629245, 3243406427, 2780545362, 2617050184, 2290349548, 2536336219⟩ := (round_step _ tb 25 u25 w25).trans rfl
theorem u27 : St.first.rounds tb 27 = ⟨1156166818, 94234649, 3487408536, 3796629245, 3360626021, 2780545362, 2617050184, 2290349548⟩ := (round_step _ tb 26 u26 w26).trans rfl
theorem u28 : St.first.rounds tb 28 = ⟨3480678056, 1156166818, 94234649, 3487408536, 3639247255, 3360626021, 2780545362, 2617050184⟩ := (round_step _ tb 27 u27 w27).trans rfl
theorem u29 : St.first.rounds tb 29 = ⟨1546931861, 3480678056, 1156166818, 94234649, 1223860325, 3639247255, 3360626021, 2780545362⟩ := (round_step _ tb 28 u28 w28).trans rfl
theorem u30 : St.first.rounds tb 30 = ⟨1331118160, 1546931861, 3480678056, 1156166818, 367170130, 1223860325, 3639247255, 3360626021⟩ := (round_step _ tb 29 u29 w29).trans rfl
theorem u31 : St.first.rounds tb 31 = ⟨1207172810, 1331118160, 1546931861, 3480678056, 4044388681, 367170130, 1223860325, 3639247255⟩ := (round_step _ tb 30 u30 w30).trans rfl
theorem u32 : St.first.rounds tb 32 = ⟨3627086696, 1207172810, 1331118160, 1546931861, 2950343182, 4044388681, 367170130, 1223860325⟩ := (round_step _ tb 31 u31 w31).trans rfl
theorem u33 : St.first.rounds tb 33 = ⟨546573902, 3627086696, 1207172810, 1331118160, 3201109086, 2950343182, 4044388681, 367170130⟩ := (round_step _ tb 32 u32 w32).trans rfl
theorem u34 : St.first.rounds tb 34 = ⟨473520161, 546573902, 3627086696, 1207172810, 2154977910, 3201109086, 2950343182, 4044388681⟩ := (round_step _ tb 33 u33 w33).trans rfl
theorem u35 : St.first.rounds tb 35 = ⟨1887836829, 473520161, 546573902, 3627086696, 1021545293, 2154977910, 3201109086, 2950343182⟩ := (round_step _ tb 34 u34 w34).trans rfl
theorem u36 : St.first.rounds tb 36 = ⟨1946675235, 1887836829, 473520161, 546573902, 2332314153, 1021545293, 2154977910, 3201109086⟩ := (round_step _ tb 35 u35 w35).trans rfl
theorem u37 : St.first.rounds tb 37 = ⟨2034328568, 1946675235, 1887836829, 473520161, 2719171134, 2332314153, 1021545293, 2154977910⟩ := (round_step _ tb 36 u36 w36).trans rfl
theorem u38 : St.first.rounds tb 38 = ⟨2892689888, 2034328568, 1946675235, 1887836829, 1417702456, 2719171134, 2332314153, 1021545293⟩ := (round_step _ tb 37 u37 w37).trans rfl
theorem u39 : St.first.rounds tb 39 = ⟨1769691782, 2892689888, 2034328568, 1946675235, 1306867109, 1417702456, 2719171134, 2332314153⟩ := (round_step _ tb 38 u38 w38).trans rfl
theorem u40 : St.first.rounds tb 40 = ⟨3972128353, 1769691782, 2892689888, 2034328568, 1414974918, 1306867109, 1417702456, 2719171134⟩ := (round_step _ tb 39 u39 w39).trans rfl
theorem u41 : St.first.rounds tb 41 = ⟨1653937629, 3972128353, 1769691782, 2892689888, 1612974288, 1414974918, 1306867109, 1417702456⟩ := (round_step _ tb 40 u40 w40).trans rfl
theorem u42 : St.first.rounds tb 42 = ⟨1432415604, 1653937629, 3972128353, 1769691782, 4141964346, 1612974288, 1414974918, 1306867109⟩ := (round_step _ tb 41 u41 w41).trans rfl
theorem u43 : St.first.rounds tb 43 = ⟨2720816116, 1432415604, 1653937629, 3972128353, 2845218806, 4141964346, 1612974288, 1414974918⟩ := (round_step _ tb 42 u42 w42).trans rfl
theorem u44 : St.first.rounds tb 44 = ⟨3022584952, 2720816116, 1432415604, 1653937629, 4169443278, 2845218806, 4141964346, 1612974288⟩ := (round_step _ tb 43 u43 w43).trans rfl
theorem u45 : St.first.rounds tb 45 = ⟨3264630472, 3022584952, 2720816116, 1432415604, 63171240, 4169443278, 2845218806, 4141964346⟩ := (round_step _ tb 44 u44 w44).trans rfl
theorem u46 : St.first.rounds tb 46 = ⟨3788923304, 3264630472, 3022584952, 2720816116, 1966230554, 63171240, 4169443278, 2845218806⟩ := (round_step _ tb 45 u45 w45).trans rfl
theorem u47 : St.first.rounds tb 47 = ⟨1072399976, 3788923304, 3264630472, 3022584952, 2496479254, 1966230554, 63171240, 4169443278⟩ := (round_step _ tb 46 u46 w46).trans rfl
theorem u48 : St.first.rounds tb 48 = ⟨2364285374, 1072399976, 3788923304, 3264630472, 3399227669, 2496479254, 1966230554, 63171240⟩ := (round_step _ tb 47 u47 w47).trans rfl
theorem u49 : St.first.rounds tb 49 = ⟨3021842557, 2364285374, 1072399976, 3788923304, 2860269664, 3399227669, 2496479254, 1966230554⟩ := (round_step _ tb 48 u48 w48).trans rfl
theorem u50 : St.first.rounds tb 50 = ⟨296396287, 3021842557, 2364285374, 1072399976, 3729271561, 2860269664, 3399227669, 2496479254⟩ := (round_step _ tb 49 u49 w49).trans rfl
theorem u51 : St.first.rounds tb 51 = ⟨1724366874, 296396287, 3021842557, 2364285374, 3506490391, 3729271561, 2860269664, 3399227669⟩ := (round_step _ tb 50 u50 w50).trans rfl
theorem u52 : St.first.rounds tb 52 = ⟨2305248929, 1724366874, 296396287, 3021842557, 1533091901, 3506490391, 3729271561, 2860269664⟩ := (round_step _ tb 51 u51 w51).trans rfl
theorem u53 : St.first.rounds tb 53 = ⟨1261157241, 2305248929, 1724366874, 296396287, 1928495236, 1533091901, 3506490391, 3729271561⟩ := (round_step _ tb 52 u52 w52).trans rfl
theorem u54 : St.first.rounds tb 54 = ⟨3240460378, 1261157241, 2305248929, 1724366874, 1601898865, 1928495236, 1533091901, 3506490391⟩ := (round_step _ tb 53 u53 w53).trans rfl
theorem u55 : St.first.rounds tb 55 = ⟨3883034754, 3240460378, 1261157241, 2305248929, 1618254821, 1601898865, 1928495236, 1533091901⟩ := (round_step _ tb 54 u54 w54).trans rfl
theorem u56 : St.first.rounds tb 56 = ⟨3189420121, 3883034754, 3240460378, 1261157241, 1341434994, 1618254821, 1601898865, 1928495236⟩ := (round_step _ tb 55 u55 w55).trans rfl
theorem u57 : St.first.rounds tb 57 = ⟨1248977900, 3189420121, 3883034754, 3240460378, 652264656, 1341434994, 1618254821, 1601898865⟩ := (round_step _ tb 56 u56 w56).trans rfl
theorem u58 : St.first.rounds tb 58 = ⟨3428054140, 1248977900, 3189420121, 3883034754, 3566533041, 652264656, 1341434994, 1618254821⟩ := (round_step _ tb 57 u57 w57).trans rfl
theorem u59 : St.first.rounds tb 59 = ⟨2940877708, 3428054140, 1248977900, 3189420121, 3913631457, 3566533041, 652264656, 1341434994⟩ := (round_step _ tb 58 u58 w58).trans rfl
theorem u60 : St.first.rounds tb 60 = ⟨2411834110, 2940877708, 3428054140, 1248977900, 2687410524, 3913631457, 3566533041, 652264656⟩ := (round_step _ tb 59 u59 w59).trans rfl
theorem u61 : St.first.rounds tb 61 = ⟨822279815, 2411834110, 2940877708, 3428054140, 4185995498, 2687410524, 3913631457, 3566533041⟩ := (round_step _ tb 60 u60 w60).trans rfl
theorem u62 : St.first.rounds tb 62 = ⟨1341247529, 822279815, 2411834110, 2940877708, 964681381, 4185995498, 2687410524, 3913631457⟩ := (round_step _ tb 61 u61 w61).trans rfl
theorem u63 : St.first.rounds tb 63 = ⟨1927581855, 1341247529, 822279815, 2411834110, 4235600577, 964681381, 4185995498, 2687410524⟩ := (round_step _ tb 62 u62 w62).trans rfl
theorem u64 : St.first.rounds tb 64 = ⟨2441362069, 1927581855, 1341247529, 822279815, 3814999612, 4235600577, 964681381, 4185995498⟩ := (round_step _ tb 63 u63 w63).trans rfl
theorem shown2 : St.first.compress tb = ⟨4220395772, 776748836, 2355151771, 3595760577, 879925435, 2541456205, 1493416016, 1432487427⟩ := by
  unfold St.compress
  rw [u64]
  rfl
end Sha.Two
namespace Sha
theorem sum_one (m : List UInt8) (l : List Nat) (h : ((m ++ endOf m.length).map UInt8.toNat) = l) (hl : l.length = 64) : sumOf m = St.first.compress (fun i => l.getD i 0) := by
  have hlen : (m ++ endOf m.length).length = 64 := by rw [← hl, ← h, List.length_map]
  unfold sumOf
  rw [hlen]
  show (St.first.after (m ++ endOf m.length) 0).compress _ = _
  refine St.compress_congr _ (fun i hi => ?_)
  unfold byteOf
  have hi' : i < (m ++ endOf m.length).length := by omega
  rw [← h, List.getD_eq_getElem?_getD, List.getD_eq_getElem?_getD, List.getElem?_map, Nat.mul_zero, Nat.zero_add, List.getElem?_eq_getElem hi']
  rfl
theorem sum_abc : sumOf [97, 98, 99] = ⟨3128432319, 2399260650, 1094795486, 1571693091, 2953011619, 2518121116, 3021012833, 4060091821⟩ := by
  rw [sum_one [97, 98, 99] abc (by rfl) (by rfl)]
  exact shown
theorem sum_ab : sumOf [97, 98] = ⟨4220395772, 776748836, 2355151771, 3595760577, 879925435, 2541456205, 1493416016, 1432487427⟩ := by
  rw [sum_one [97, 98] Two.two (by rfl) (by rfl)]
  exact Two.shown2
end Sha
