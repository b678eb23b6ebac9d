/- LinesNotes. -/
import Derived.Test.YtofikmdfiimbbaaDoorL17
import Derived.Test.YtofikmdfiimbbaaDoorL25
import Derived.Test.YtofikmdfiimbbaaDoorPj
set_option linter.unusedVariables false
set_option linter.unusedSimpArgs false
namespace Go.Proofs.YtofikmdfiimbbaaDoor
open Go.RowKit
attribute [local go_sem ↓] run_string_add_sum
theorem nine (k : Nat) (hk : k ≤ 9) : ((⟨#[32, 32, 32, 32, 32, 32, 32, 32, 32]⟩ : ByteArray).extract 0 k).data.toList = Ln.blanks k := by
  have : ∀ k, k < 10 → ((⟨#[32, 32, 32, 32, 32, 32, 32, 32, 32]⟩ : ByteArray).extract 0 k).data.toList = Ln.blanks k := by decide
  exact this k (by omega)
set_option maxRecDepth 100000 in
set_option maxHeartbeats 4000000 in
theorem notes_law (s t : ByteArray) (n : Int) (hs : s.size ≤ maxLen) (ht : t.size ≤ maxLen) (w : World) (hG : Glob w) : Calls Tryd.prog 5 #[.string s, .string t, .int .i64 n] w fun e w' => e = .returned (.bool true) ∧ Below w.heap.size w w' := by
  have hs0 : s.size ≤ 9223372036854775807 := by unfold maxLen at hs; omega
  have ht0 : t.size ≤ 9223372036854775807 := by unfold maxLen at ht; omega
  have hmin : min (s.size : Int) 3000 = ((min s.size 3000 : Nat) : Int) := by omega
  have hmit : min (t.size : Int) 100 = ((min t.size 100 : Nat) : Int) := by omega
  have k0 : (0 : Int) ≤ ((min s.size 3000 : Nat) : Int) := by omega
  have k1 : ((min s.size 3000 : Nat) : Int) ≤ (s.size : Int) := by omega
  have k2 : (0 : Int) ≤ ((min t.size 100 : Nat) : Int) := by omega
  have k3 : ((min t.size 100 : Nat) : Int) ≤ (t.size : Int) := by omega
  obtain ⟨k, hk, hk9⟩ : ∃ k : Nat, min (max n 0) 9 = (k : Int) ∧ k ≤ 9 := ⟨(min (max n 0) 9).toNat, by omega, by omega⟩
  have k4 : (0 : Int) ≤ (k : Int) := by omega
  have k5 : (k : Int) ≤ 9 := by omega
  have z1 := front_size s 3000
  have z2 := front_size t 100
  obtain ⟨S, hS⟩ : ∃ X, front s 3000 = X := ⟨_, rfl⟩
  obtain ⟨T, hT⟩ : ∃ X, front t 100 = X := ⟨_, rfl⟩
  have hS' : s.extract 0 (min s.size 3000) = S := hS
  have hT' : t.extract 0 (min t.size 100) = T := hT
  rw [hS] at z1
  rw [hT] at z2
  obtain ⟨K, hK⟩ : ∃ X, (⟨#[32, 32, 32, 32, 32, 32, 32, 32, 32]⟩ : ByteArray).extract 0 k = X := ⟨_, rfl⟩
  have hKl : K.data.toList = Ln.blanks k := by rw [← hK]; exact nine k hk9
  have hKz : K.size ≤ 9 := by rw [← text_size, hKl]; unfold Ln.blanks; rw [List.length_replicate]; exact hk9
  obtain ⟨U, hU⟩ : ∃ X : ByteArray, K ++ (⟨#[35]⟩ : ByteArray) ++ T ++ (⟨#[10]⟩ : ByteArray) ++ K ++ (⟨#[10]⟩ : ByteArray) ++ S ++ K = X := ⟨_, rfl⟩
  have hUl : U.data.toList = Ln.noted k T.data.toList S.data.toList := by rw [← hU]; unfold Ln.noted; rw [← hKl]; simp
  have hUz : U.size ≤ 3200 := by
    rw [← text_size, hUl]
    unfold Ln.noted
    simp only [List.length_append, text_size, List.length_cons, List.length_nil, ← hKl]
    omega
  obtain ⟨R, hR⟩ : ∃ b, Ln.right T.data.toList = b := ⟨_, rfl⟩
  obtain ⟨P, hP⟩ : ∃ b, Ln.plainB T.data.toList = b := ⟨_, rfl⟩
  have hpl := fun w => plain17_any T (by omega) R P hR hP w
  have hns := fun h1 h2 => Ln.noted_split k T.data.toList S.data.toList h1 h2 (by rw [← hUl, text_size]; omega) (by rw [text_size]; omega)
  rw [hR, hP, ← hUl] at hns
  obtain ⟨la, hla⟩ : ∃ x, (Ln.split S.data.toList).1 = x := ⟨_, rfl⟩
  obtain ⟨na, hna⟩ : ∃ x, (Ln.split S.data.toList).2.1 = x := ⟨_, rfl⟩
  obtain ⟨ea, hea⟩ : ∃ x, (Ln.split S.data.toList).2.2 = x := ⟨_, rfl⟩
  obtain ⟨lb, hlb⟩ : ∃ x, (Ln.split U.data.toList).1 = x := ⟨_, rfl⟩
  obtain ⟨nb, hnb⟩ : ∃ x, (Ln.split U.data.toList).2.1 = x := ⟨_, rfl⟩
  obtain ⟨eb, heb⟩ : ∃ x, (Ln.split U.data.toList).2.2 = x := ⟨_, rfl⟩
  have sa : Ln.split S.data.toList = (la, na, ea) := by rw [← hla, ← hna, ← hea]
  have sb : Ln.split U.data.toList = (lb, nb, eb) := by rw [← hlb, ← hnb, ← heb]
  rw [sa, sb] at hns
  simp only at hns
  obtain ⟨NA, hNA⟩ : ∃ x, la.length = x := ⟨_, rfl⟩
  obtain ⟨NB, hNB⟩ : ∃ x, lb.length = x := ⟨_, rfl⟩
  have zA : NA ≤ 6001 := by rw [← hNA, ← hla]; have := mem_len S.data.toList; rw [text_size] at this; omega
  have zB : NB ≤ 6001 := by rw [← hNB, ← hlb]; have := mem_len U.data.toList; rw [text_size] at this; omega
  have callA := fun w hG => split_at2 S (by omega) la na ea sa w hG
  have callB := fun w hG => split_at2 U (by omega) lb nb eb sb w hG
  rw [hNA] at callA
  rw [hNB] at callB
  have hno : ∀ x ∈ la, 1 ≤ x.no ∧ x.no ≤ 8000 := by
    intro x hx
    rw [← hla] at hx
    obtain ⟨_, h8, _, r, _, k, _, rfl, h1, h2⟩ := Ln.split_mem _ _ hx
    have := Ln.rows_size S.data.toList
    exact ⟨h1, by show k ≤ 8000; omega⟩
  have hna8 : 0 ≤ na ∧ na ≤ 8001 := by
    have h1 := Ln.split_top S.data.toList
    have h2 := Ln.split_no S.data.toList
    rw [hna] at h1 h2
    rw [text_size] at h1
    omega
  have c1 : K.size + 1 ≤ 9223372036854775807 := by omega
  have c2 : K.size + 1 + T.size ≤ 9223372036854775807 := by omega
  have c3 : K.size + 1 + T.size + 1 ≤ 9223372036854775807 := by omega
  have c4 : K.size + 1 + T.size + 1 + K.size ≤ 9223372036854775807 := by omega
  have c5 : K.size + 1 + T.size + 1 + K.size + 1 ≤ 9223372036854775807 := by omega
  have c6 : K.size + 1 + T.size + 1 + K.size + 1 + S.size ≤ 9223372036854775807 := by omega
  have c7 : K.size + 1 + T.size + 1 + K.size + 1 + S.size + K.size ≤ 9223372036854775807 := by omega
  have HG := Lib.hid hG
  have CP := Lib.hid hpl
  have CA := Lib.hid callA
  have CB := Lib.hid callB
  have HS := Lib.hid hS'
  have HT := Lib.hid hT'
  have HK := Lib.hid hK
  have HU := Lib.hid hU
  have HNS := Lib.hid hns
  have HNA := Lib.hid hNA
  have HNB := Lib.hid hNB
  have HNO := Lib.hid hno
  have HN8 := Lib.hid hna8
  clear hG hpl callA callB hS hT hS' hT' hK hU hns hNA hNB hno hna8 hUl hKl sa sb hla hna hea hlb hnb heb hR hP hUz hKz hk9
  go_enter Tryd.func5, Tryd.ntmps5
  go_wp2_with fail
  refine (shown_any w HG.out).mono ?_
  rintro e w1 ⟨rfl, hb1⟩
  have G1 := Lib.hid (HG.out.step hb1)
  have B1 := Lib.hid hb1
  clear hb1
  go_wp2_with fail
  rw [HS.out, HT.out]
  refine (CP.out _).mono ?_
  rintro e w2 ⟨rfl, hb2⟩
  have B2 := Lib.hid (B1.out.trans (hb2.mono B1.out.size))
  have G2 := Lib.hid (G1.out.step hb2)
  clear hb2
  cases hRP : (R && P) with
  | false =>
    go_wp2_with fail
    go_ret
    exact ⟨rfl, B2.out⟩
  | true =>
    simp only [Bool.and_eq_true] at hRP
    have hns := HNS.out hRP.1 hRP.2
    have HM := Lib.hid hns
    clear HNS hRP hns
    go_wp2_with fail
    rw [HK.out]
    refine (CA.out w2 G2.out).mono ?_
    rintro e w3 ⟨⟨a3, g3, q3, rfl, hl3⟩, hb3⟩
    have B3 := Lib.hid (B2.out.trans (hb3.mono B2.out.size))
    have G3 := Lib.hid (G2.out.step hb3)
    have LA3 := Lib.hid hl3
    clear hb3 hl3
    go_wp2_with fail
    rw [HU.out]
    refine (CB.out w3 G3.out).mono ?_
    rintro e w4 ⟨⟨a4, g4, q4, rfl, hl4⟩, hb4⟩
    have B4 := Lib.hid (B3.out.trans (hb4.mono B3.out.size))
    have LA4 := Lib.hid (LA3.out.keep hb4)
    have LB4 := Lib.hid hl4
    clear hb4 hl4 LA3
    by_cases hea : ea = 0
    · have hh := HM.out.1 hea
      have hlb : lb = la.map (Ln.later 2) := congrArg Prod.fst hh
      obtain rfl : nb = 0 := congrArg (fun x => x.2.1) hh
      obtain rfl : eb = 0 := congrArg (fun x => x.2.2) hh
      obtain rfl : NA = NB := by rw [← HNB.out, hlb, List.length_map, HNA.out]
      have HLB := Lib.hid hlb
      clear hh hlb HM
      subst hea
      go_wp2_with fail
      go_loopw [15] (fun a wr => ∃ i : Nat, a = .int .i64 (i : Int) ∧ i ≤ NA ∧ Below w4.heap.size w4 wr) (fun a _ => NA - (Lib.intOf a).toNat)
      case atStart => exact ⟨0, rfl, Nat.zero_le _, Below.refl _ _⟩
      case round =>
        obtain ⟨i, rfl, hin, hb⟩ := hrel
        have B5 := Lib.hid (B4.out.trans (hb.mono B4.out.size))
        by_cases hi : i < NA
        · have h1 : (i : Int) < (NA : Int) := by omega
          obtain ⟨x, hx⟩ : ∃ x, la[i]? = some x := ⟨_, List.getElem?_eq_getElem (by rw [HNA.out]; exact hi)⟩
          have hy : lb[i]? = some (Ln.later 2 x) := by rw [HLB.out, List.getElem?_map, hx]; rfl
          obtain ⟨ha, hg, hc⟩ := (LA4.out.keep hb) (by intro e; rw [e] at hx; simp at hx)
          obtain ⟨fa, fg, fc⟩ := (LB4.out.keep hb) (by intro e; rw [e] at hy; simp at hy)
          obtain ⟨x0, x1, x2⟩ := hc i x hx
          obtain ⟨y0, y1, y2⟩ := fc i _ hy
          simp only [Nat.zero_add] at x0 x1 x2 y0 y1 y2
          have hxn := HNO.out x (List.mem_of_getElem? hx)
          have v1 : IntKind.i64.wrap ((i : Int) + 1) = (i : Int) + 1 := IntWalk.i64_in _ (by omega)
          subst ha fa
          obtain ⟨n1, i1, s1⟩ := x
          simp only [Ln.later] at x0 x1 x2 y0 y1 y2 hxn
          obtain ⟨S1, hS1⟩ : ∃ X : ByteArray, (⟨s1.toArray⟩ : ByteArray) = X := ⟨_, rfl⟩
          rw [hS1] at x2 y2
          have v2 : IntKind.i64.wrap (n1 + 2) = n1 + 2 := IntWalk.i64_in _ (by omega)
          have HB := Lib.hid hb
          clear hc fc hx hy hS1 hxn hb
          go_upto_region 16 with (fail)
          go_quiet (fail)
          go_wp2_with fail
          go_roundw
          case rel => exact ⟨i + 1, by simp, by omega, Below.drewN' HB.out nq⟩
          case measure => simp [Lib.intOf]; omega
        · have h1 : ¬ (i : Int) < (NA : Int) := by omega
          go_wp2_with fail
          go_ret
          exact ⟨rfl, B5.out⟩
    · obtain ⟨hh, hn0⟩ := HM.out.2 hea
      obtain rfl : eb = ea := congrArg (fun x => x.2.2) hh
      have hnb : nb = if na = 0 then 0 else na + 2 := congrArg (fun x => x.2.1) hh
      obtain ⟨hn1, hn2⟩ := HN8.out
      clear hh HM
      by_cases hz : na = 0
      · subst hz
        rw [if_pos rfl] at hnb
        subst hnb
        go_wp2_with fail
        go_ret
        exact ⟨rfl, B4.out⟩
      · rw [if_neg hz] at hnb
        subst hnb
        have h3 : 0 < na := by omega
        have v2 : IntKind.i64.wrap (na + 2) = na + 2 := IntWalk.i64_in _ (by omega)
        go_wp2_with fail
        go_ret
        exact ⟨rfl, B4.out⟩
end Go.Proofs.YtofikmdfiimbbaaDoor
