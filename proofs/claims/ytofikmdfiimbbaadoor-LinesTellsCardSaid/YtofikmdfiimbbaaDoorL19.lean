/- LinesBack. -/
import Derived.Test.YtofikmdfiimbbaaDoorL18
import Derived.Test.YtofikmdfiimbbaaDoorPh
set_option linter.unusedVariables false
set_option linter.unusedSimpArgs false
namespace Go.Proofs.YtofikmdfiimbbaaDoor
open Go.RowKit
theorem join_len (l : List Ln.Line) : (Ln.join l).1.length ≤ 8000 := by
  unfold Ln.join
  split
  · simp
  · split
    · simp
    · rename_i h1 h2
      have := Ln.text_length 0 l (by simpa using h1)
      simp only
      omega
theorem join_at (ls : List Ln.Line) (n : Nat) (hn : ls.length = n) (hn2 : n ≤ 100000) (hz : ∀ x ∈ ls, x.s.length ≤ 1000000) (U : ByteArray) (h : Int) (hU : (⟨(Ln.join ls).1.toArray⟩ : ByteArray) = U) (hh : (Ln.join ls).2 = h) (at0 : Option Addr) (g o cap : Nat) (w : World) (hG : Glob w) (hL : LA w at0 g o ls) :
    Calls Tryd.prog 14 #[.slice at0 n cap] w fun e w' => e = .returned (.tuple #[.string U, .int .i64 h]) ∧ Below w.heap.size w w' := by
  have := join_any ls at0 g o n cap hn hn2 hz w hG hL
  rw [hU, hh] at this
  exact this
set_option maxRecDepth 100000 in
set_option maxHeartbeats 4000000 in
theorem back_law (ls : List Ln.Line) (at0 : Option Addr) (len cap : Nat) (s : ByteArray) (hs : s.size ≤ maxLen) {w : World} (hG : Glob w) (hlen : ls.length = len ∧ len ≤ maxLen) (hz : ∀ x ∈ ls, x.s.length ≤ maxLen) (hL : ∃ g o, LA w at0 g o ls) :
    Calls Tryd.prog 4 #[.slice at0 len cap, .string s] w fun e w' => e = .returned (.bool true) ∧ Below w.heap.size w w' := by
  obtain ⟨g0, o0, hL⟩ := hL
  have hs0 : s.size ≤ 9223372036854775807 := by unfold maxLen at hs; omega
  have HCZ := cutB_size s
  obtain ⟨C, hC⟩ : ∃ C, cutB s = C := ⟨_, rfl⟩
  have hcut := fun w => cut_any s hs0 w
  rw [hC] at hcut HCZ
  have hfew := fun w hL => few_any ls at0 g0 o0 len cap hlen.1 hlen.2 hz w hL
  -- the first lines, their text, its lines
  obtain ⟨F, hF⟩ : ∃ F, fewL ls = F := ⟨_, rfl⟩
  have hFs := fewL_s ls
  have hFn := fewL_len ls
  rw [hF] at hFs hFn hfew
  obtain ⟨NF, hNF⟩ : ∃ x, F.length = x := ⟨_, rfl⟩
  have zF : NF ≤ 40 := by omega
  obtain ⟨T, hT⟩ : ∃ T : ByteArray, (⟨(Ln.join F).1.toArray⟩ : ByteArray) = T := ⟨_, rfl⟩
  obtain ⟨eT, heT⟩ : ∃ x, (Ln.join F).2 = x := ⟨_, rfl⟩
  have hTl : T.data.toList = (Ln.join F).1 := by rw [← hT]
  have hTz : T.size ≤ 8000 := by rw [← text_size, hTl]; exact join_len F
  have cF := fun a g o c w hG hL => join_at F NF hNF (by omega) (fun x hx => Nat.le_trans (hFs x hx) (by decide)) T eT hT heT a g o c w hG hL
  obtain ⟨lm, hlm⟩ : ∃ x, (Ln.split T.data.toList).1 = x := ⟨_, rfl⟩
  obtain ⟨nm, hnm⟩ : ∃ x, (Ln.split T.data.toList).2.1 = x := ⟨_, rfl⟩
  obtain ⟨em, hem⟩ : ∃ x, (Ln.split T.data.toList).2.2 = x := ⟨_, rfl⟩
  have sm : Ln.split T.data.toList = (lm, nm, em) := by rw [← hlm, ← hnm, ← hem]
  obtain ⟨NM, hNM⟩ : ∃ x, lm.length = x := ⟨_, rfl⟩
  have cT := fun w hG => split_at2 T (by omega) lm nm em sm w hG
  rw [hNM] at cT
  have hjs : eT = 0 → lm = F ∧ nm = 0 ∧ em = 0 := by
    intro h
    have := Ln.join_split F (by rw [heT]; exact h)
    rw [← hTl, sm] at this
    exact ⟨congrArg Prod.fst this, congrArg (fun x => x.2.1) this, congrArg (fun x => x.2.2) this⟩
  -- the text's lines, their text, its lines
  obtain ⟨la, hla⟩ : ∃ x, (Ln.split C.data.toList).1 = x := ⟨_, rfl⟩
  obtain ⟨na, hna⟩ : ∃ x, (Ln.split C.data.toList).2.1 = x := ⟨_, rfl⟩
  obtain ⟨ea, hea⟩ : ∃ x, (Ln.split C.data.toList).2.2 = x := ⟨_, rfl⟩
  have sa : Ln.split C.data.toList = (la, na, ea) := by rw [← hla, ← hna, ← hea]
  obtain ⟨NA, hNA⟩ : ∃ x, la.length = x := ⟨_, rfl⟩
  have zA : NA ≤ 8001 := by rw [← hNA, ← hla]; have := mem_len C.data.toList; rw [text_size] at this; omega
  have cC := fun w hG => split_at2 C (by omega) la na ea sa w hG
  rw [hNA] at cC
  have hn0 : 0 ≤ na := by rw [← hna]; exact Ln.split_no _
  have hbad : ea ≠ 0 → la = [] := fun h => by rw [← hla]; exact Ln.split_none _ (by rw [hea]; exact h)
  obtain ⟨U, hU⟩ : ∃ U : ByteArray, (⟨(Ln.join la).1.toArray⟩ : ByteArray) = U := ⟨_, rfl⟩
  obtain ⟨hh, hhh⟩ : ∃ x, (Ln.join la).2 = x := ⟨_, rfl⟩
  have hUl : U.data.toList = (Ln.join la).1 := by rw [← hU]
  have hUz : U.size ≤ 8000 := by rw [← text_size, hUl]; exact join_len la
  have cJ := fun a g o c w hG hL => join_at la NA hNA (by omega) (fun x hx => by rw [← hla] at hx; have := Ln.split_len _ x hx; omega) U hh hU hhh a g o c w hG hL
  obtain ⟨lb, hlb⟩ : ∃ x, (Ln.split U.data.toList).1 = x := ⟨_, rfl⟩
  obtain ⟨nb, hnb⟩ : ∃ x, (Ln.split U.data.toList).2.1 = x := ⟨_, rfl⟩
  obtain ⟨eb, heb⟩ : ∃ x, (Ln.split U.data.toList).2.2 = x := ⟨_, rfl⟩
  have sb : Ln.split U.data.toList = (lb, nb, eb) := by rw [← hlb, ← hnb, ← heb]
  obtain ⟨NB, hNB⟩ : ∃ x, lb.length = x := ⟨_, rfl⟩
  have zB : NB ≤ 8001 := by rw [← hNB, ← hlb]; have := mem_len U.data.toList; rw [text_size] at this; omega
  have cU := fun w hG => split_at2 U (by omega) lb nb eb sb w hG
  rw [hNB] at cU
  have hok : ea = 0 → na = 0 ∧ ((hh = 20 ∧ U.data.toList = []) ∨ (hh = 0 ∧ la = lb ∧ eb = 0)) := by
    intro h
    have hz : (Ln.split C.data.toList).2.2 = 0 := by rw [hea]; exact h
    refine ⟨?_, ?_⟩
    · have := Ln.split_ok _ hz
      rw [sa] at this
      exact congrArg (fun x => x.2.1) this
    · rcases Ln.split_join _ hz with h1 | ⟨h1, h2⟩
      · rw [hla] at h1
        left
        rw [h1] at hhh hUl
        exact ⟨hhh.symm, hUl⟩
      · rw [hla] at h1 h2
        right
        rw [← hUl, sb] at h2
        exact ⟨by rw [← hhh]; exact h1, (congrArg Prod.fst h2).symm, congrArg (fun x => x.2.2) h2⟩
  have HG := Lib.hid hG
  have HL := Lib.hid hL
  have HCUT := Lib.hid hcut
  have HFEW := Lib.hid hfew
  have CF := Lib.hid cF
  have CT := Lib.hid cT
  have CC := Lib.hid cC
  have CJ := Lib.hid cJ
  have CU := Lib.hid cU
  have HJS := Lib.hid hjs
  have HOK := Lib.hid hok
  have HBAD := Lib.hid hbad
  have HNF := Lib.hid hNF
  have HNM := Lib.hid hNM
  have HNA := Lib.hid hNA
  have HNB := Lib.hid hNB
  clear hG hL hcut hfew cF cT cC cJ cU hjs hok hbad hNF hNM hNA hNB hC hF hFs hFn hT heT hTl hlm hnm hem sm hla hna hea sa hU hhh hUl hlb hnb heb sb hz hlen
  go_enter Tryd.func4, Tryd.ntmps4
  go_wp2_with fail
  refine (shown_any w HG.out).mono ?_
  rintro e w1 ⟨rfl, hb1⟩
  have G1 := Lib.hid (HG.out.step hb1)
  have B1 := Lib.hid hb1
  have L1 := Lib.hid (HL.out.keep hb1)
  clear hb1
  go_wp2_with fail
  refine (HFEW.out _ L1.out).mono ?_
  rintro e w2 ⟨⟨v2, rfl, hv2⟩, hb2⟩
  obtain ⟨a2, g2, c2, rfl, hl2⟩ := lines_LA hv2
  rw [HNF.out]
  have B2 := Lib.hid (B1.out.trans (hb2.mono B1.out.size))
  have G2 := Lib.hid (G1.out.step hb2)
  have L2 := Lib.hid hl2
  clear hb2 hl2 hv2
  go_wp2_with fail
  refine (HCUT.out _).mono ?_
  rintro e w2' ⟨rfl, rfl⟩
  go_wp2_with fail
  refine (CF.out _ _ _ _ _ G2.out L2.out).mono ?_
  rintro e w4 ⟨rfl, hb4⟩
  have B4 := Lib.hid (B2.out.trans (hb4.mono B2.out.size))
  have G4 := Lib.hid (G2.out.step hb4)
  have L4 := Lib.hid (L2.out.keep hb4)
  clear hb4
  go_wp2_with fail
  refine (CT.out _ G4.out).mono ?_
  rintro e w5 ⟨⟨a5, g5, c5, rfl, hl5⟩, hb5⟩
  have B5' := Lib.hid (B4.out.trans (hb5.mono B4.out.size))
  have G5' := Lib.hid (G4.out.step hb5)
  have L5 := Lib.hid (L4.out.keep hb5)
  have M5 := Lib.hid hl5
  clear hb5 hl5
  by_cases heT : eT = 0
  · obtain ⟨e1, e2, e3⟩ := HJS.out heT
    subst heT e1 e2 e3
    obtain rfl : NM = NF := HNM.out.symm.trans HNF.out
    have hs1 := same_any lm lm a2 a5 g2 0 g5 0 NM NM c2 c5 HNM.out HNM.out (by omega) w5 L5.out M5.out
    rw [decide_eq_true (rfl : lm = lm)] at hs1
    have HS1 := Lib.hid hs1
    clear hs1
    go_wp2_with fail
    refine HS1.out.mono ?_
    rintro e w5b ⟨rfl, m, hw5⟩
    have B5 := Lib.hid (show Below w.heap.size w w5b by rw [hw5]; exact Below.drewN' B5'.out m)
    have G5 := Lib.hid (show Glob w5b by rw [hw5]; exact G5'.out.step (Below.drewN' (Below.refl _ _) m))
    clear hw5 HS1
    have hbN := B5.out.size
    go_wp2_with fail
    refine (CC.out _ G5.out).mono ?_
    rintro e w6 ⟨⟨a6, g6, c6, rfl, hl6⟩, hb6⟩
    have B6 := Lib.hid (B5.out.trans (hb6.mono B5.out.size))
    have G6 := Lib.hid (G5.out.step hb6)
    have L6 := Lib.hid hl6
    clear hb6 hl6
    go_wp2_with fail
    refine (CJ.out _ _ _ _ _ G6.out L6.out).mono ?_
    rintro e w7 ⟨rfl, hb7⟩
    have B7 := Lib.hid (B6.out.trans (hb7.mono B6.out.size))
    have G7 := Lib.hid (G6.out.step hb7)
    have L7 := Lib.hid (L6.out.keep hb7)
    clear hb7
    go_wp2_with fail
    refine (CU.out _ G7.out).mono ?_
    rintro e w8 ⟨⟨a8, g8, c8, rfl, hl8⟩, hb8⟩
    have B8 := Lib.hid (B7.out.trans (hb8.mono B7.out.size))
    have L8 := Lib.hid (L7.out.keep hb8)
    have M8 := Lib.hid hl8
    clear hb8 hl8
    by_cases hea : ea = 0
    · obtain ⟨hna, hor⟩ := HOK.out hea
      subst hea hna
      rcases hor with ⟨hh, hU⟩ | ⟨hh, hlb, hi⟩
      · have he : U.toList.isEmpty = true := by rw [ByteArray.toList_eq, hU]; rfl
        subst hh
        go_wp2_with fail
        go_ret
        exact ⟨rfl, B8.out⟩
      · subst hh hi hlb
        have hs2 := same_any la la a6 a8 g6 0 g8 0 NA NB c6 c8 HNA.out HNB.out (by omega) w8 L8.out M8.out
        rw [decide_eq_true (rfl : la = la)] at hs2
        have HS2 := Lib.hid hs2
        clear hs2
        go_wp2_with fail
        refine HS2.out.mono ?_
        rintro e w9 ⟨rfl, m, hw9⟩
        have B9 : Below w.heap.size w w9 := by rw [hw9]; exact Below.drewN' B8.out m
        clear hw9 HS2
        go_wp2_with fail
        go_ret
        exact ⟨rfl, B9⟩
    · have hl := HBAD.out hea
      obtain rfl : NA = 0 := by rw [← HNA.out, hl]; rfl
      go_wp2_with fail
      go_ret
      exact ⟨rfl, B8.out⟩
  · have B5 := B5'
    have G5 := G5'
    have hbN := B5.out.size
    go_wp2_with fail
    refine (CC.out _ G5.out).mono ?_
    rintro e w6 ⟨⟨a6, g6, c6, rfl, hl6⟩, hb6⟩
    have B6 := Lib.hid (B5.out.trans (hb6.mono B5.out.size))
    have G6 := Lib.hid (G5.out.step hb6)
    have L6 := Lib.hid hl6
    clear hb6 hl6
    go_wp2_with fail
    refine (CJ.out _ _ _ _ _ G6.out L6.out).mono ?_
    rintro e w7 ⟨rfl, hb7⟩
    have B7 := Lib.hid (B6.out.trans (hb7.mono B6.out.size))
    have G7 := Lib.hid (G6.out.step hb7)
    have L7 := Lib.hid (L6.out.keep hb7)
    clear hb7
    go_wp2_with fail
    refine (CU.out _ G7.out).mono ?_
    rintro e w8 ⟨⟨a8, g8, c8, rfl, hl8⟩, hb8⟩
    have B8 := Lib.hid (B7.out.trans (hb8.mono B7.out.size))
    have L8 := Lib.hid (L7.out.keep hb8)
    have M8 := Lib.hid hl8
    clear hb8 hl8
    by_cases hea : ea = 0
    · obtain ⟨hna, hor⟩ := HOK.out hea
      subst hea hna
      rcases hor with ⟨hh, hU⟩ | ⟨hh, hlb, hi⟩
      · have he : U.toList.isEmpty = true := by rw [ByteArray.toList_eq, hU]; rfl
        subst hh
        go_wp2_with fail
        go_ret
        exact ⟨rfl, B8.out⟩
      · subst hh hi hlb
        have hs2 := same_any la la a6 a8 g6 0 g8 0 NA NB c6 c8 HNA.out HNB.out (by omega) w8 L8.out M8.out
        rw [decide_eq_true (rfl : la = la)] at hs2
        have HS2 := Lib.hid hs2
        clear hs2
        go_wp2_with fail
        refine HS2.out.mono ?_
        rintro e w9 ⟨rfl, m, hw9⟩
        have B9 : Below w.heap.size w w9 := by rw [hw9]; exact Below.drewN' B8.out m
        clear hw9 HS2
        go_wp2_with fail
        go_ret
        exact ⟨rfl, B9⟩
    · have hl := HBAD.out hea
      obtain rfl : NA = 0 := by rw [← HNA.out, hl]; rfl
      go_wp2_with fail
      go_ret
      exact ⟨rfl, B8.out⟩
end Go.Proofs.YtofikmdfiimbbaaDoor
