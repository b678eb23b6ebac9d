/- Split, the document's way. -/
import Derived.Test.YtofikmdfiimbbaaDoorL27
import Derived.Test.YtofikmdfiimbbaaDoorL8
import Derived.Test.YtofikmdfiimbbaaDoorPk
import Derived.Deep.Cut
import Derived.Deep.CutRange
set_option linter.unusedVariables false
set_option linter.unusedSimpArgs false
namespace Go.Proofs.YtofikmdfiimbbaaDoor
open Go.RowKit
theorem split13_done (s : ByteArray) (w W : World) (v : Value) (ls : List Ln.Line) (no er : Int) (h : Ln.split s.data.toList = (ls, no, er)) (hl : Lines w.heap.size v ls W) (hb : Below w.heap.size w W) : SplitPost s w (.returned (.tuple #[v, .int .i64 no, .int .i64 er])) W := by
  unfold SplitPost
  rw [h]
  exact ⟨⟨v, rfl, hl⟩, hb⟩
theorem lines_nil (b : Nat) (w : World) : Lines b (.slice none 0 0) [] w := World.ownsRow_nil _ _ _ _
set_option maxRecDepth 100000 in
set_option maxHeartbeats 4000000 in
theorem split13_any (s : ByteArray) (hs : s.size ≤ 100000) (w : World) : Calls Tryd.prog 13 #[.string s] w (SplitPost s w) := by
  obtain ⟨ti, hi, hz0, hz1, hz2⟩ := info_parts info36
  have Hi := Lib.hid hi
  have Hz0 := Lib.hid hz0
  have Hz1 := Lib.hid hz1
  have Hz2 := Lib.hid hz2
  clear hi hz0 hz1 hz2
  obtain ⟨L, hL⟩ : ∃ L, s.data.toList = L := ⟨_, rfl⟩
  have hLz : L.length = s.size := by rw [← hL, text_size]
  by_cases h8 : 8000 < s.size
  · have i8 : (8000 : Int) < (s.size : Int) := by omega
    have hsp : Ln.split s.data.toList = ([], 0, 20) := by unfold Ln.split; rw [if_pos (by rw [text_size]; omega)]
    have HSP := Lib.hid hsp
    clear hsp hL hLz
    go_enter Tryd.func13, Tryd.ntmps13
    go_wp2_with fail
    go_ret3
    exact split13_done s _ _ _ _ _ _ HSP.out (lines_nil _ _) (Below.refl _ _)
  · have i8 : ¬ (8000 : Int) < (s.size : Int) := by omega
    cases hrt : Ln.right L with
    | false =>
      have hsp : Ln.split s.data.toList = ([], 0, 40) := by rw [hL]; unfold Ln.split; rw [if_neg (by omega), if_pos hrt]
      have HSP := Lib.hid hsp
      have hc := right22_any s hs false (by rw [hL]; exact hrt) w
      clear hsp hL hLz hrt
      go_enter Tryd.func13, Tryd.ntmps13
      go_wp2_with fail
      refine hc.mono ?_
      rintro e w1 ⟨rfl, hb⟩
      go_wp2_with fail
      go_ret3
      exact split13_done s _ _ _ _ _ _ HSP.out (lines_nil _ _) hb
    | true =>
      obtain ⟨R, hR⟩ : ∃ R, Ln.rows L = R := ⟨_, rfl⟩
      have hc := right22_any s hs true (by rw [hL]; exact hrt) w
      have hc2 := fun w => rows23_any s hs R (by rw [hL]; exact hR) w
      have hrr : ∀ r ∈ R, Ln.right r = true ∧ r.length ≤ 8000 := by
        intro r hr
        rw [← hR] at hr
        exact ⟨Ln.rows_right _ L (Nat.le_refl _) hrt r hr, by have := Ln.rows_row_size L r hr; omega⟩
      have hRz : R.length ≤ 8000 := by have := Ln.rows_size L; rw [hR] at this; omega
      have hbad : ∀ n er, Ln.bad 1 R = (n, er) → er ≠ 0 → Ln.split s.data.toList = ([], n, er) := by
        intro n er h h0
        rw [hL]
        unfold Ln.split
        rw [if_neg (by omega), if_neg (by rw [hrt]; decide), hR, h, if_neg h0]
      have hgood : (∀ r ∈ R, Ln.trouble r = 0) → Ln.split s.data.toList = (Ln.lns 1 R, 0, 0) := by
        intro h
        rw [hL]
        unfold Ln.split
        rw [if_neg (by omega), if_neg (by rw [hrt]; decide), hR, if_pos ((Ln.bad_zero 1 R (by omega)).2 h)]
      have HC2 := Lib.hid hc2
      have HRR := Lib.hid hrr
      have HBAD := Lib.hid hbad
      have HGD := Lib.hid hgood
      obtain ⟨N, hN⟩ : ∃ N, R.length = N := ⟨_, rfl⟩
      rw [hN] at hRz
      have HN := Lib.hid hN
      clear hc2 hrr hbad hgood hN hL hLz hrt hR
      go_enter Tryd.func13, Tryd.ntmps13
      go_wp2_with fail
      refine hc.mono ?_
      rintro e w1 ⟨rfl, hb1⟩
      have HB1 := Lib.hid hb1
      clear hb1 hc
      go_wp2_with fail
      refine (HC2.out w1).mono ?_
      rintro e w2 ⟨⟨v, rfl, hrow⟩, hb2⟩
      obtain ⟨_, at0, cap, rfl, hcell⟩ := ownsRow_slice hrow
      rw [HN.out]
      have HB2 := Lib.hid (HB1.out.trans (hb2.mono HB1.out.size))
      have HCE := Lib.hid hcell
      clear hrow hb2 hcell HC2 HB1
      go_wp2_with fail
      go_loopw [5, 7] (fun v i W => ∃ t : Nat, t ≤ N ∧ i = .int .i64 (t : Int) ∧ Lines w2.heap.size v (Ln.lns 1 (R.take t)) W ∧ (∀ r ∈ R.take t, Ln.trouble r = 0) ∧ Below w2.heap.size w2 W) (fun _ i _ => N - (Lib.intOf i).toNat)
      case atStart => exact ⟨0, by omega, rfl, lines_nil _ _, fun r h => absurd h (by simp), Below.refl _ _⟩
      case round =>
        obtain ⟨t, ht, rfl, hlines, htr, hbl⟩ := hrel
        have HLS := Lib.hid hlines
        have HTR := Lib.hid htr
        have HBL := Lib.hid hbl
        clear hlines htr hbl
        by_cases hlt : t < N
        · have i0 : (t : Int) < (N : Int) := by omega
          obtain ⟨r, hr⟩ : ∃ r, R[t]? = some r := ⟨_, List.getElem?_eq_getElem (by rw [HN.out]; exact hlt)⟩
          obtain ⟨g, rfl, hg1, hg2, hcl⟩ := HCE.out t (.string ⟨r.toArray⟩) (by unfold textCells; rw [List.getElem?_map, hr]; rfl)
          obtain ⟨T, hT⟩ : ∃ T : ByteArray, (⟨r.toArray⟩ : ByteArray) = T := ⟨_, rfl⟩
          have hTl : T.data.toList = r := by rw [← hT]
          rw [hT] at hcl
          obtain ⟨hr1, hr2⟩ := HRR.out r (List.mem_of_getElem? hr)
          have hTz : r.length = T.size := by rw [← hTl, text_size]
          have hcw : wr.cell? ⟨g, t, none⟩ = some (.string T) := (HBL.out.cell (p := ⟨g, t, none⟩) hg2).trans hcl
          have hcp := fun P hP w => plain17_any T (by omega) true P (by rw [hTl]; exact hr1) hP w
          have hcm := fun w => mark24_any T (by omega) w
          rw [hTl] at hcp hcm
          obtain ⟨pb, hpb⟩ : ∃ b, Ln.plainB r = b := ⟨_, rfl⟩
          obtain ⟨mb, hmb⟩ : ∃ b, Ln.markB r = b := ⟨_, rfl⟩
          have hcp := hcp pb hpb
          rw [Bool.true_and] at hcp
          rw [hmb] at hcm
          have htrb : Ln.trouble r = if pb then (if mb then 81 else 0) else 80 := by unfold Ln.trouble; rw [hpb, hmb]
          have v1 : IntKind.i64.wrap ((t : Int) + 1) = (t : Int) + 1 := IntWalk.i64_in _ (by omega)
          have HTRB := Lib.hid htrb
          have HCP := Lib.hid hcp
          have HCM := Lib.hid hcm
          have HR := Lib.hid hr
          have HTL := Lib.hid hTl
          clear hcl htrb hcp hcm hr hTl hT hpb hmb hr1
          go_wp2_with fail
          refine (HCP.out _).mono ?_
          rintro e w3 ⟨rfl, hb3⟩
          have hcw3 : w3.cell? ⟨g, t, none⟩ = some (.string T) := (hb3.cell (p := ⟨g, t, none⟩) (Nat.lt_of_lt_of_le hg2 HBL.out.size)).trans hcw
          have HB3 := Lib.hid hb3
          clear hb3 hcw
          cases pb with
          | false =>
            have hsp := HBAD.out _ 80 (bad_at R t r HR.out HTR.out 80 HTRB.out (by decide)) (by decide)
            have HSP := Lib.hid hsp
            clear hsp
            go_wp2_with fail
            go_ret3
            exact split13_done s _ _ _ _ _ _ HSP.out (lines_nil _ _) (HB2.out.trans ((HBL.out.mono HB2.out.size).trans (HB3.out.mono (Nat.le_trans HB2.out.size HBL.out.size))))
          | true =>
            go_wp2_with fail
            refine (HCM.out _).mono ?_
            rintro e w4 ⟨rfl, rfl⟩
            cases mb with
            | true =>
              have hsp := HBAD.out _ 81 (bad_at R t r HR.out HTR.out 81 HTRB.out (by decide)) (by decide)
              have HSP := Lib.hid hsp
              clear hsp
              go_wp2_with fail
              go_ret3
              exact split13_done s _ _ _ _ _ _ HSP.out (lines_nil _ _) (HB2.out.trans ((HBL.out.mono HB2.out.size).trans (HB3.out.mono (Nat.le_trans HB2.out.size HBL.out.size))))
            | false =>
              have htr0 : Ln.trouble r = 0 := HTRB.out
              have HT0 := Lib.hid htr0
              clear htr0 HTRB HCP HCM
              go_upto_block 2 with (fail)
              go_cut [8] from 39 to 57 (fun v wx => ∃ k : Nat, v = .int .i64 (k : Int) ∧ k ≤ T.size ∧ (∀ j, j < k → Ln.nat r j = 32) ∧ (k = T.size ∨ Ln.nat r k ≠ 32) ∧ wx = w4)
              case first =>
                go_wp2_with fail
                go_loopw [8] (fun v W => ∃ k : Nat, v = .int .i64 (k : Int) ∧ k ≤ T.size ∧ (∀ j, j < k → Ln.nat r j = 32) ∧ W = w4) (fun v _ => T.size - (Lib.intOf v).toNat)
                case atStart => exact ⟨0, rfl, by omega, fun j h => absurd h (by omega), rfl⟩
                case round =>
                  obtain ⟨k, rfl, hk, h32, hwr⟩ := hrel
                  obtain rfl : w4 = wr := hwr.symm
                  have H32 := Lib.hid h32
                  clear h32
                  by_cases hkz : k < T.size
                  · have i1 : (k : Int) < (T.size : Int) := by omega
                    have hix := fun w => idx9 T (k : Int) k rfl hkz w
                    rw [HTL.out] at hix
                    obtain ⟨c, hc⟩ : ∃ c, Ln.nat r k = c := ⟨_, rfl⟩
                    rw [hc] at hix
                    have HC := Lib.hid hc
                    clear hc
                    have v2 : IntKind.i64.wrap ((k : Int) + 1) = (k : Int) + 1 := IntWalk.i64_in _ (by omega)
                    by_cases hcs : c = 32
                    · subst hcs
                      go_wp2_with fail
                      go_roundw
                      case rel => exact ⟨k + 1, by simp, by omega, fun j h => by
                        by_cases hj : j = k
                        · subst hj; exact HC.out
                        · exact H32.out j (by omega), trivial⟩
                      case measure => simp [Lib.intOf]; omega
                    · have i2 : ((c : Int) == 32) = false := by
                        have : ¬ (c : Int) = 32 := by omega
                        simpa using this
                      go_wp2_with fail
                      go_meet
                      exact ⟨k, rfl, by omega, H32.out, .inr (by rw [HC.out]; exact hcs), rfl⟩
                  · have i1 : ¬ (k : Int) < (T.size : Int) := by omega
                    go_wp2_with fail
                    go_meet
                    exact ⟨k, rfl, by omega, H32.out, .inl (by omega), rfl⟩
              case rest =>
                obtain ⟨k, rfl, hk, h32, hk2, hwx⟩ := hcut
                obtain rfl := hwx.symm
                have H32 := Lib.hid h32
                have HK2 := Lib.hid hk2
                clear h32 hk2
                go_upto_block 4 with (fail)
                go_cut [9] from 62 to 77 (fun v wx => ∃ e : Nat, v = .int .i64 (e : Int) ∧ k ≤ e ∧ e ≤ T.size ∧ (∀ j, e ≤ j → j < T.size → Ln.nat r j = 32) ∧ (e = k ∨ Ln.nat r (e - 1) ≠ 32) ∧ wx = w4)
                case first =>
                  go_wp2_with fail
                  go_loopw [9] (fun v W => ∃ e : Nat, v = .int .i64 (e : Int) ∧ k ≤ e ∧ e ≤ T.size ∧ (∀ j, e ≤ j → j < T.size → Ln.nat r j = 32) ∧ W = w4) (fun v _ => (Lib.intOf v).toNat)
                  case atStart => exact ⟨T.size, rfl, by omega, by omega, fun j h h' => absurd h' (by omega), rfl⟩
                  case round =>
                    obtain ⟨e, rfl, hke, hez, he32, hwr⟩ := hrel
                    obtain rfl : w4 = wr := hwr.symm
                    have HE := Lib.hid he32
                    clear he32
                    by_cases hkz : k < e
                    · have i1 : (k : Int) < (e : Int) := by omega
                      have v2 : IntKind.i64.wrap ((e : Int) - 1) = ((e - 1 : Nat) : Int) := by rw [IntWalk.i64_in _ (by omega)]; omega
                      have hix := fun w => idx9 T ((e - 1 : Nat) : Int) (e - 1) rfl (by omega) w
                      rw [HTL.out] at hix
                      obtain ⟨c, hc⟩ : ∃ c, Ln.nat r (e - 1) = c := ⟨_, rfl⟩
                      rw [hc] at hix
                      have HC := Lib.hid hc
                      clear hc
                      obtain ⟨e', he'⟩ : ∃ e', e - 1 = e' := ⟨_, rfl⟩
                      rw [he'] at hix v2 HC
                      by_cases hcs : c = 32
                      · subst hcs
                        go_wp2_with fail
                        go_roundw
                        case rel => exact ⟨e', by simp, by omega, by omega, fun j h h' => by
                          by_cases hj : j = e'
                          · subst hj; exact HC.out
                          · exact HE.out j (by omega) h', trivial⟩
                        case measure => simp [Lib.intOf]; omega
                      · have i2 : ((c : Int) == 32) = false := by
                          have : ¬ (c : Int) = 32 := by omega
                          simpa using this
                        go_wp2_with fail
                        go_meet
                        exact ⟨e, rfl, by omega, by omega, HE.out, .inr (by rw [he', HC.out]; exact hcs), rfl⟩
                    · have i1 : ¬ (k : Int) < (e : Int) := by omega
                      go_wp2_with fail
                      go_meet
                      exact ⟨e, rfl, by omega, by omega, HE.out, .inl (by omega), rfl⟩
                case rest =>
                  obtain ⟨e, rfl, hke, hez, he32, he2, hwx⟩ := hcut
                  obtain rfl := hwx.symm
                  have hll := Ln.lineL_at ((t : Int) + 1) r k e hke (by omega) H32.out (by rw [hTz]; exact HK2.out) (by rw [hTz]; exact he32) he2
                  have hlt1 : (R.take t).length = t := by rw [List.length_take]; have := HN.out; omega
                  have htk : R.take (t + 1) = R.take t ++ [r] := by rw [List.take_add_one, HR.out]; rfl
                  have hln := lns_take R t r htk hlt1
                  rw [hll] at hln
                  have htr2 : ∀ r' ∈ R.take (t + 1), Ln.trouble r' = 0 := by
                    intro r' h
                    rw [htk] at h
                    rcases List.mem_append.1 h with h | h
                    · exact HTR.out r' h
                    · rw [List.mem_singleton.1 h]; exact HT0.out
                  have hbl2 : Below w2.heap.size w2 w4 := HBL.out.trans (HB3.out.mono HBL.out.size)
                  have hls2 : Lines w2.heap.size u5 (Ln.lns 1 (R.take t)) w4 := ownsRow_far HLS.out (Far.of_below HB3.out (fun _ => False)) (fun _ _ _ h => h)
                  have HLN := Lib.hid hln
                  have HTR2 := Lib.hid htr2
                  have HBL2 := Lib.hid hbl2
                  have HLS2 := Lib.hid hls2
                  clear hll hlt1 htk hln htr2 hbl2 hls2 he32 he2 H32 HK2
                  by_cases hlt2 : k < e
                  · have i1 : (k : Int) < (e : Int) := by omega
                    have hix := fun w => idx9 T (k : Int) k rfl (by omega) w
                    rw [HTL.out] at hix
                    obtain ⟨c, hc⟩ : ∃ c, Ln.nat r k = c := ⟨_, rfl⟩
                    rw [hc] at hix HLN
                    clear hc
                    by_cases h35 : c = 35
                    · subst h35
                      have hsame : Ln.lns 1 (R.take (t + 1)) = Ln.lns 1 (R.take t) := by
                        have h := HLN.out
                        rw [if_neg (by simp), List.append_nil] at h
                        exact h
                      have HSM := Lib.hid hsame
                      clear hsame HLN
                      go_wp2_with fail
                      go_roundw
                      case rel => exact ⟨t + 1, by omega, by simp, by rw [HSM.out]; exact HLS2.out, HTR2.out, HBL2.out⟩
                      case measure => simp [Lib.intOf]; omega
                    · have i2 : ((c : Int) == 35) = false := by
                        have : ¬ (c : Int) = 35 := by omega
                        simpa using this
                      obtain ⟨P, hP⟩ : ∃ P, T.extract k (k + (e - k)) = P := ⟨_, rfl⟩
                      have hPl : P.data.toList = (r.drop k).take (e - k) := by rw [← hP, ← HTL.out]; exact extract_list T k (e - k)
                      have hsl := fun w => slice_at T k (e - k) (by omega) (e : Int) (by omega) w
                      rw [hP] at hsl
                      have hnew : Ln.lns 1 (R.take (t + 1)) = Ln.lns 1 (R.take t) ++ [⟨(t : Int) + 1, k, P.data.toList⟩] := by
                        have h := HLN.out
                        rw [if_pos ⟨hlt2, h35⟩] at h
                        rw [h, hPl]
                      obtain ⟨n, hn⟩ : ∃ n, (Ln.lns 1 (R.take t)).length = n := ⟨_, rfl⟩
                      have hnz : n ≤ 8000 := by
                        rw [← hn]
                        have h1 := lns_len 1 (R.take t)
                        rw [List.length_take] at h1
                        omega
                      have hrow := HLS2.out
                      unfold Lines at hrow
                      rw [hn] at hrow
                      have hl2 : lineCells (Ln.lns 1 (R.take (t + 1))) = lineCells (Ln.lns 1 (R.take t)) ++ [.int .i64 ((t : Int) + 1), .int .i64 (k : Int), .string P] := by
                        rw [hnew, lineCells_append]
                        show _ ++ [Value.int .i64 ((t : Int) + 1), .int .i64 (k : Int), .string ⟨P.data.toList.toArray⟩] = _
                        rw [mk_list]
                      have hl3 : (Ln.lns 1 (R.take (t + 1))).length = n + 1 := by rw [hnew, List.length_append, hn]; rfl
                      have hcells : ∀ (j : Nat) (u : Value), [Value.int .i64 ((t : Int) + 1), .int .i64 (k : Int), .string P][j]? = some u → (w4.alloc (.cells #[.int .i64 ((t : Int) + 1), .int .i64 (k : Int), .string P] 36)).cell? ((⟨w4.heap.size, 0, none⟩ : Addr).add j) = some u := by
                        intro j u hj
                        have hadd : (⟨w4.heap.size, 0, none⟩ : Addr).add j = ⟨w4.heap.size, j, none⟩ := by unfold Addr.add; split <;> simp_all
                        rw [hadd, cell_of (alloc_heap _ _) j]
                        simpa using hj
                      have hsz1 := HBL2.out.size
                      have hbs : w2.heap.size ≤ (w4.alloc (.cells #[.int .i64 ((t : Int) + 1), .int .i64 (k : Int), .string P] 36)).heap.size := by simp; omega
                      have hn1 : n + 1 ≤ maxLen := by unfold maxLen; omega
                      have hn2 : (n + 1) * 32 ≤ 140737488355328 := by omega
                      have H2 := Lib.hid hl2
                      have H3 := Lib.hid hl3
                      have Hrow := Lib.hid hrow
                      clear hl2 hl3 hrow hnew hPl hP hn HLN HLS2
                      go_wp2_with (at_builtin; refine wpList_append_own _ rfl (.tmp 89) (.tmp 101) 22 rfl w2.heap.size 36 ti _ 3 32 Tryd.underlying22 Hi.out Hz0.out Hz1.out Hz2.out rfl (by decide) _ n (lineCells (Ln.lns 1 (R.take t))) rfl (Hrow.out.alloc _) ⟨w4.heap.size, 0, none⟩ 1 1 [.int .i64 ((t : Int) + 1), .int .i64 (k : Int), .string P] rfl rfl hcells (by simp [Value.oneCell']) hn1 hn2 hbs ?_; intro v' w5 hown' hgrow _; have Hown := Lib.hid hown'; have Hgrow := Lib.hid hgrow; clear hown' hgrow)
                      go_roundw
                      case rel =>
                        refine ⟨t + 1, by omega, by simp, ?_, HTR2.out, (HBL2.out.alloc hsz1 _).grown Hgrow.out hbs (fun k e => (Hrow.out.lt k e).1)⟩
                        unfold Lines
                        rw [H2.out, H3.out]
                        exact Hown.out
                      case measure => simp [Lib.intOf]; omega
                  · have i1 : ¬ (k : Int) < (e : Int) := by omega
                    have hsame : Ln.lns 1 (R.take (t + 1)) = Ln.lns 1 (R.take t) := by
                      have h := HLN.out
                      rw [if_neg (fun h => hlt2 h.1), List.append_nil] at h
                      exact h
                    have HSM := Lib.hid hsame
                    clear hsame HLN
                    go_wp2_with fail
                    go_roundw
                    case rel => exact ⟨t + 1, by omega, by simp, by rw [HSM.out]; exact HLS2.out, HTR2.out, HBL2.out⟩
                    case measure => simp [Lib.intOf]; omega
        · obtain rfl : t = N := by omega
          have i0 : ¬ (t : Int) < (t : Int) := by omega
          have htk : R.take t = R := by rw [← HN.out, List.take_length]
          have hsp := HGD.out (by rw [← htk]; exact HTR.out)
          have hl := HLS.out
          rw [htk] at hl
          have HSP := Lib.hid hsp
          have HL := Lib.hid hl
          clear hsp hl htk
          go_wp2_with fail
          go_ret3
          exact split13_done s _ _ _ _ _ _ HSP.out (World.ownsRow.base_le HL.out HB2.out.size) (HB2.out.trans (HBL.out.mono HB2.out.size))
end Go.Proofs.YtofikmdfiimbbaaDoor
