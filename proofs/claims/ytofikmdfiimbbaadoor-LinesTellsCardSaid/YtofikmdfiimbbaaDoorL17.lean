/- LinesJoins. -/
import Derived.Test.YtofikmdfiimbbaaDoorL16
set_option linter.unusedVariables false
set_option linter.unusedSimpArgs false
namespace Go.Proofs.YtofikmdfiimbbaaDoor
open Go.RowKit
attribute [local go_sem ↓] run_string_add_sum
def front (s : ByteArray) (k : Nat) : ByteArray := s.extract 0 (min s.size k)
theorem front_size (s : ByteArray) (k : Nat) : (front s k).size ≤ k := by
  unfold front
  rw [ByteArray.size_extract]
  omega
theorem drop_get {α : Type} (a b : List α) (i : Nat) (x : α) (h : (a ++ b)[i]? = some x) (hi : ¬ i < a.length) : b[i - a.length]? = some x := by
  rw [List.getElem?_append_right (by omega)] at h
  exact h
theorem take_ends (s : ByteArray) : ends s s.size = s.data.toList.count 10 := by
  unfold ends
  rw [List.take_of_length_le (by rw [text_size]; exact Nat.le_refl _)]
set_option maxRecDepth 100000 in
set_option maxHeartbeats 4000000 in
theorem joins_law (s t : ByteArray) (hs : s.size ≤ maxLen) (ht : t.size ≤ maxLen) (w : World) (hG : Glob w) : Calls Tryd.prog 7 #[.string s, .string t] w fun e w' => e = .returned (.bool true) ∧ Below w.heap.size w w' := by
  have hs0 : s.size ≤ 9223372036854775807 := by unfold maxLen at hs; omega
  have ht0 : t.size ≤ 9223372036854775807 := by unfold maxLen at ht; omega
  have hmin : min (s.size : Int) 3000 = ((min s.size 3000 : Nat) : Int) := by omega
  have hmit : min (t.size : Int) 3000 = ((min t.size 3000 : Nat) : Int) := by omega
  have k0 : (0 : Int) ≤ ((min s.size 3000 : Nat) : Int) := by omega
  have k1 : ((min s.size 3000 : Nat) : Int) ≤ (s.size : Int) := by omega
  have k2 : (0 : Int) ≤ ((min t.size 3000 : Nat) : Int) := by omega
  have k3 : ((min t.size 3000 : Nat) : Int) ≤ (t.size : Int) := by omega
  have z1 := front_size s 3000
  have z2 := front_size t 3000
  obtain ⟨S0, hS0⟩ : ∃ X, front s 3000 = X := ⟨_, rfl⟩
  obtain ⟨T, hT⟩ : ∃ X, front t 3000 = X := ⟨_, rfl⟩
  have hS0' : s.extract 0 (min s.size 3000) = S0 := hS0
  have hT' : t.extract 0 (min t.size 3000) = T := hT
  rw [hS0] at z1
  rw [hT] at z2
  obtain ⟨S, hS⟩ : ∃ X : ByteArray, S0 ++ (⟨#[10]⟩ : ByteArray) = X := ⟨_, rfl⟩
  have hSl : S.data.toList = S0.data.toList ++ [10] := by rw [← hS]; simp
  have hSz : S.size = S0.size + 1 := by rw [← text_size, hSl, List.length_append, text_size]; rfl
  obtain ⟨ST, hST⟩ : ∃ X : ByteArray, S ++ T = X := ⟨_, rfl⟩
  have hSTl : ST.data.toList = S0.data.toList ++ [10] ++ T.data.toList := by rw [← hST, ByteArray.data_append, Array.toList_append, hSl]
  have hSTz : ST.size ≤ 6001 := by rw [← text_size, hSTl]; simp only [List.length_append, text_size, List.length_cons, List.length_nil]; omega
  obtain ⟨p1, p2⟩ := Ln.split_joins S0.data.toList T.data.toList (by simp only [List.length_append, text_size, List.length_cons, List.length_nil]; omega)
  rw [← hSTl, ← hSl] at p1 p2
  obtain ⟨la, hla⟩ : ∃ x, (Ln.split S.data.toList).1 = x := ⟨_, rfl⟩
  obtain ⟨na, hna⟩ : ∃ x, (Ln.split S.data.toList).2.1 = x := ⟨_, rfl⟩
  obtain ⟨ea, hea⟩ : ∃ x, (Ln.split S.data.toList).2.2 = x := ⟨_, rfl⟩
  obtain ⟨lb, hlb⟩ : ∃ x, (Ln.split T.data.toList).1 = x := ⟨_, rfl⟩
  obtain ⟨nb, hnb⟩ : ∃ x, (Ln.split T.data.toList).2.1 = x := ⟨_, rfl⟩
  obtain ⟨eb, heb⟩ : ∃ x, (Ln.split T.data.toList).2.2 = x := ⟨_, rfl⟩
  obtain ⟨lc, hlc⟩ : ∃ x, (Ln.split ST.data.toList).1 = x := ⟨_, rfl⟩
  obtain ⟨nc, hnc⟩ : ∃ x, (Ln.split ST.data.toList).2.1 = x := ⟨_, rfl⟩
  obtain ⟨ec, hec⟩ : ∃ x, (Ln.split ST.data.toList).2.2 = x := ⟨_, rfl⟩
  have sa : Ln.split S.data.toList = (la, na, ea) := by rw [← hla, ← hna, ← hea]
  have sb : Ln.split T.data.toList = (lb, nb, eb) := by rw [← hlb, ← hnb, ← heb]
  have sc : Ln.split ST.data.toList = (lc, nc, ec) := by rw [← hlc, ← hnc, ← hec]
  rw [sa, sb, sc] at p1 p2
  simp only at p1 p2
  obtain ⟨NA, hNA⟩ : ∃ x, la.length = x := ⟨_, rfl⟩
  obtain ⟨NB, hNB⟩ : ∃ x, lb.length = x := ⟨_, rfl⟩
  obtain ⟨NC, hNC⟩ : ∃ x, lc.length = x := ⟨_, rfl⟩
  have zA : NA ≤ 6001 := by rw [← hNA, ← hla]; have := mem_len S.data.toList; rw [text_size] at this; omega
  have zB : NB ≤ 6001 := by rw [← hNB, ← hlb]; have := mem_len T.data.toList; rw [text_size] at this; omega
  have zC : NC ≤ 6001 := by rw [← hNC, ← hlc]; have := mem_len ST.data.toList; rw [text_size] at this; omega
  have callA := fun w hG => split_at2 S (by omega) la na ea sa w hG
  have callB := fun w hG => split_at2 T (by omega) lb nb eb sb w hG
  have callC := fun w hG => split_at2 ST (by omega) lc nc ec sc w hG
  rw [hNA] at callA
  rw [hNB] at callB
  rw [hNC] at callC
  have hno : ∀ x ∈ lb, 1 ≤ x.no ∧ x.no ≤ 8000 := by
    intro x hx
    rw [← hlb] at hx
    obtain ⟨_, h8, _, r, _, k, _, rfl, h1, h2⟩ := Ln.split_mem _ _ hx
    have := Ln.rows_size T.data.toList
    exact ⟨h1, by show k ≤ 8000; omega⟩
  have b1 : S0.size + 1 ≤ 9223372036854775807 := by omega
  have b2 : S.size + T.size ≤ 9223372036854775807 := by omega
  have HG := Lib.hid hG
  have CA := Lib.hid callA
  have CB := Lib.hid callB
  have CC := Lib.hid callC
  have HS := Lib.hid hS
  have HST := Lib.hid hST
  have HS0 := Lib.hid hS0'
  have HT := Lib.hid hT'
  have P1 := Lib.hid p1
  have P2 := Lib.hid p2
  have HNA := Lib.hid hNA
  have HNB := Lib.hid hNB
  have HNC := Lib.hid hNC
  have HNO := Lib.hid hno
  have HSZ := Lib.hid hSz
  clear hG callA callB callC hS hST hS0 hT p1 p2 hNA hNB hNC hno hSl hSTl sa sb sc hla hna hea hlb hnb heb hlc hnc hec hS0' hT' hSz hSTz
  go_enter Tryd.func7, Tryd.ntmps7
  go_wp2_with fail
  refine (shown_any w HG.out).mono ?_
  rintro e w1 ⟨rfl, hb1⟩
  have G1 := Lib.hid (HG.out.step hb1)
  have B1 := Lib.hid hb1
  clear hb1
  go_wp2_with fail
  rw [HS0.out, HT.out, HS.out]
  refine (CA.out w1 G1.out).mono ?_
  rintro e w2 ⟨⟨a2, g2, c2, rfl, hl2⟩, hb2⟩
  have B2 := Lib.hid (B1.out.trans (hb2.mono B1.out.size))
  have G2 := Lib.hid (G1.out.step hb2)
  have LA2 := Lib.hid hl2
  clear hb2 hl2
  go_wp2_with fail
  refine (CB.out w2 G2.out).mono ?_
  rintro e w3 ⟨⟨a3, g3, c3, rfl, hl3⟩, hb3⟩
  have B3 := Lib.hid (B2.out.trans (hb3.mono B2.out.size))
  have G3 := Lib.hid (G2.out.step hb3)
  have LA3 := Lib.hid (LA2.out.keep hb3)
  have LB3 := Lib.hid hl3
  clear hb3 hl3 LA2
  go_wp2_with fail
  rw [HST.out]
  refine (CC.out w3 G3.out).mono ?_
  rintro e w4 ⟨⟨a4, g4, c4, rfl, hl4⟩, hb4⟩
  have B4 := Lib.hid (B3.out.trans (hb4.mono B3.out.size))
  have LA4 := Lib.hid (LA3.out.keep hb4)
  have LB4 := Lib.hid (LB3.out.keep hb4)
  have LC4 := Lib.hid hl4
  clear hb4 hl4 LA3 LB3
  go_wp2_with fail
  go_loopw [15, 16] (fun a b wr => ∃ k : Nat, a = .int .i64 (ends S k : Nat) ∧ b = .int .i64 (k : Int) ∧ k ≤ S.size ∧ wr = w4) (fun _ b _ => S.size - (Lib.intOf b).toNat)
  case atStart => exact ⟨0, by rw [ends_zero]; rfl, rfl, Nat.zero_le _, rfl⟩
  case round =>
    obtain ⟨k, rfl, rfl, hk, hwr⟩ := hrel
    obtain rfl : w4 = wr := hwr.symm
    have hSZ := HSZ.out
    have hkl : ends S k ≤ S.size := by
      unfold ends
      exact Nat.le_trans (List.count_le_length) (by rw [List.length_take]; omega)
    by_cases hi : k < S.size
    · have h1 : (k : Int) < (S.size : Int) := by omega
      have hk0 : (0 : Int) ≤ (k : Int) := by omega
      obtain ⟨r, hr⟩ : ∃ r, ends S k = r := ⟨_, rfl⟩
      rw [hr] at hkl ⊢
      have v1 : IntKind.i64.wrap ((k : Int) + 1) = (k : Int) + 1 := IntWalk.i64_in _ (by omega)
      have v2 : IntKind.i64.wrap ((r : Int) + 1) = (r : Int) + 1 := IntWalk.i64_in _ (by omega)
      by_cases hc : ((S[k]'hi).toNat : Int) = 10
      · have hy := ends_yes S k hi hc
        rw [hr] at hy
        have HY := Lib.hid hy
        clear hy hr hSZ
        go_wp2_with fail
        go_roundw
        case rel => exact ⟨k + 1, by rw [HY.out]; simp, by simp, by omega, trivial⟩
        case measure => simp [Lib.intOf]; omega
      · have hy := ends_no S k hi hc
        rw [hr] at hy
        have HY := Lib.hid hy
        have hcb : (((S[k]'hi).toNat : Int) == 10) = false := by simpa using hc
        clear hy hr hSZ
        go_wp2_with fail
        go_roundw
        case rel => exact ⟨k + 1, by rw [HY.out], by simp, by omega, trivial⟩
        case measure => simp [Lib.intOf]; omega
    · have h1 : ¬ (k : Int) < (S.size : Int) := by omega
      obtain rfl : k = S.size := by omega
      obtain ⟨R, hR⟩ : ∃ R, ends S S.size = R := ⟨_, rfl⟩
      have hR2 : S.data.toList.count 10 = R := by rw [← take_ends]; exact hR
      rw [hR] at hkl ⊢
      have p1 := P1.out
      rw [hR2] at p1
      have HP1 := Lib.hid p1
      clear hR hR2 p1 P1
      by_cases hea : ea = 0
      · by_cases heb : eb = 0
        · have hh := HP1.out hea heb
          have hlc : lc = la ++ lb.map (Ln.later (R : Nat)) := congrArg Prod.fst hh
          have hec : ec = 0 := congrArg (fun x => x.2.2) hh
          have hNC : NC = NA + NB := by rw [← HNC.out, hlc, List.length_append, List.length_map, HNA.out, HNB.out]
          have HLC := Lib.hid hlc
          have v0 : IntKind.i64.wrap ((NA : Int) + (NB : Int)) = (NA : Int) + (NB : Int) := IntWalk.i64_in _ (by omega)
          have hNC' : (NC : Int) = (NA : Int) + (NB : Int) := by omega
          clear hh hlc hNC HP1 P2 hSZ
          subst hea heb hec
          go_wp2_with fail
          go_loopw [17, 18] (fun a _ wr => ∃ i : Nat, a = .int .i64 (i : Int) ∧ i ≤ NC ∧ Below w4.heap.size w4 wr) (fun a _ _ => NC - (Lib.intOf a).toNat)
          case atStart => exact ⟨0, rfl, Nat.zero_le _, Below.refl _ _⟩
          case round =>
            obtain ⟨i, rfl, hin, hb⟩ := hrel
            have B5 := Lib.hid (B4.out.trans (hb.mono B4.out.size))
            by_cases hi : i < NC
            · have h1 : (i : Int) < (NC : Int) := by omega
              obtain ⟨x, hx⟩ : ∃ x, lc[i]? = some x := ⟨_, List.getElem?_eq_getElem (by rw [HNC.out]; exact hi)⟩
              obtain ⟨ha, hg, hc⟩ := (LC4.out.keep hb) (by intro e; rw [e] at hx; simp at hx)
              obtain ⟨x0, x1, x2⟩ := hc i x hx
              simp only [Nat.zero_add] at x0 x1 x2
              have v1 : IntKind.i64.wrap ((i : Int) + 1) = (i : Int) + 1 := IntWalk.i64_in _ (by omega)
              have hx2 := hx
              rw [HLC.out] at hx2
              by_cases hia : i < NA
              · have h2 : (i : Int) < (NA : Int) := by omega
                have h3 : ¬ (NA : Int) ≤ (i : Int) := by omega
                have hy : la[i]? = some x := by rw [List.getElem?_append_left (by rw [HNA.out]; exact hia)] at hx2; exact hx2
                obtain ⟨fa, fg, fc⟩ := (LA4.out.keep hb) (by intro e; rw [e] at hy; simp at hy)
                obtain ⟨y0, y1, y2⟩ := fc i x hy
                simp only [Nat.zero_add] at y0 y1 y2
                subst ha fa
                obtain ⟨n1, i1, s1⟩ := x
                simp only at x0 x1 x2 y0 y1 y2
                obtain ⟨S1, hS1⟩ : ∃ X : ByteArray, (⟨s1.toArray⟩ : ByteArray) = X := ⟨_, rfl⟩
                rw [hS1] at x2 y2
                have hre := eqL_refl n1 i1 S1
                have HB := Lib.hid hb
                clear hc fc hx hx2 hy hS1 hb
                go_upto_region 18 with (fail)
                go_quiet (fail)
                go_wp2_with fail
                go_roundw
                case rel => exact ⟨i + 1, by simp, by omega, Below.drewN' HB.out nq⟩
                case measure => simp [Lib.intOf]; omega
              · have h2 : ¬ (i : Int) < (NA : Int) := by omega
                have h3 : (NA : Int) ≤ (i : Int) := by omega
                obtain ⟨j, hj⟩ : ∃ j, i - NA = j := ⟨_, rfl⟩
                have hx3 := drop_get _ _ i x hx2 (by rw [HNA.out]; exact hia)
                rw [HNA.out, hj, List.getElem?_map] at hx3
                cases hy : lb[j]? with
                | none => rw [hy] at hx3; simp at hx3
                | some y =>
                  rw [hy] at hx3
                  simp only [Option.map_some, Option.some.injEq] at hx3
                  subst hx3
                  obtain ⟨fa, fg, fc⟩ := (LB4.out.keep hb) (by intro e; rw [e] at hy; simp at hy)
                  obtain ⟨y0, y1, y2⟩ := fc j y hy
                  simp only [Nat.zero_add] at y0 y1 y2
                  have hjb : j < NB := by
                    by_cases h : j < NB
                    · exact h
                    · rw [List.getElem?_eq_none (by rw [HNB.out]; omega)] at hy; simp at hy
                  have hjb' : (j : Int) < (NB : Int) := by omega
                  have hj0 : (0 : Int) ≤ (j : Int) := by omega
                  have hyn := HNO.out y (List.mem_of_getElem? hy)
                  subst ha fa
                  obtain ⟨n1, i1, s1⟩ := y
                  simp only [Ln.later] at x0 x1 x2 y0 y1 y2 hyn
                  obtain ⟨S1, hS1⟩ : ∃ X : ByteArray, (⟨s1.toArray⟩ : ByteArray) = X := ⟨_, rfl⟩
                  rw [hS1] at x2 y2
                  have hre := eqL_refl (n1 + (R : Int)) i1 S1
                  have hRz : R ≤ 3001 := by have := HSZ.out; omega
                  have v2 : IntKind.i64.wrap ((i : Int) - (NA : Int)) = (j : Int) := by rw [IntWalk.i64_in _ (by omega)]; omega
                  have v3 : IntKind.i64.wrap (n1 + (R : Int)) = n1 + (R : Int) := IntWalk.i64_in _ (by omega)
                  have HB := Lib.hid hb
                  have hgl := hg
                  clear hc fc hx hx2 hy hS1 hj hyn hb
                  go_upto_region 18 with (fail)
                  go_quiet (fail)
                  have x0' : (wr.drewN nq).cell? ⟨g4, i * 3, none⟩ = some (.int .i64 (n1 + (R : Int))) := x0
                  have x1' : (wr.drewN nq).cell? ⟨g4, i * 3 + 1, none⟩ = some (.int .i64 i1) := x1
                  have x2' : (wr.drewN nq).cell? ⟨g4, i * 3 + 2, none⟩ = some (.string S1) := x2
                  have y0' : (wr.drewN nq).cell? ⟨g3, j * 3, none⟩ = some (.int .i64 n1) := y0
                  have y1' : (wr.drewN nq).cell? ⟨g3, j * 3 + 1, none⟩ = some (.int .i64 i1) := y1
                  have y2' : (wr.drewN nq).cell? ⟨g3, j * 3 + 2, none⟩ = some (.string S1) := y2
                  have B6 := Lib.hid (Below.drewN' HB.out nq)
                  have gl' : g4 < (wr.drewN nq).heap.size := hgl
                  clear x0 x1 x2 y0 y1 y2 hg hgl fg
                  generalize wr.drewN nq = W5 at x0' x1' x2' y0' y1' y2' B6 gl' ⊢
                  have q := alloc_heap W5 (Obj.cells #[Value.int IntKind.i64 (n1 + ↑R), Value.int IntKind.i64 i1, Value.string S1] 36)
                  have q0 := cell_of q 0
                  have q1 := cell_of q 1
                  have q2 := cell_of q 2
                  have r0 := new_past (o := Obj.cells #[Value.int IntKind.i64 (n1 + ↑R), Value.int IntKind.i64 i1, Value.string S1] 36) gl' x0'
                  have r1 := new_past (o := Obj.cells #[Value.int IntKind.i64 (n1 + ↑R), Value.int IntKind.i64 i1, Value.string S1] 36) gl' x1'
                  have r2 := new_past (o := Obj.cells #[Value.int IntKind.i64 (n1 + ↑R), Value.int IntKind.i64 i1, Value.string S1] 36) gl' x2'
                  have B7 := Lib.hid (B6.out.alloc B6.out.size (Obj.cells #[Value.int IntKind.i64 (n1 + ↑R), Value.int IntKind.i64 i1, Value.string S1] 36))
                  go_upto_region 23 with (fail)
                  clear x0' x1' x2' y0' y1' y2' q
                  generalize W5.heap.size = qq at q0 q1 q2 ⊢
                  generalize W5.alloc (Obj.cells #[Value.int IntKind.i64 (n1 + ↑R), Value.int IntKind.i64 i1, Value.string S1] 36) = W6 at q0 q1 q2 r0 r1 r2 B7 ⊢
                  replace q0 : W6.cell? ⟨qq, 0, none⟩ = some (.int .i64 (n1 + (R : Int))) := q0
                  replace q1 : W6.cell? ⟨qq, 1, none⟩ = some (.int .i64 i1) := q1
                  replace q2 : W6.cell? ⟨qq, 2, none⟩ = some (.string S1) := q2
                  go_quiet (fail)
                  go_wp2_with fail
                  go_roundw
                  case rel => exact ⟨i + 1, by simp, by omega, Below.drewN' B7.out nq⟩
                  case measure => simp [Lib.intOf]; omega
            · have h1 : ¬ (i : Int) < (NC : Int) := by omega
              go_wp2_with fail
              go_ret
              exact ⟨rfl, B5.out⟩
        · have hec := P2.out (.inr heb)
          clear HP1 P2 hSZ
          go_wp2_with fail
          go_ret
          exact ⟨by simp [heb, hec], B4.out⟩
      · have hec := P2.out (.inl hea)
        clear HP1 P2 hSZ
        go_wp2_with fail
        go_ret
        exact ⟨by simp [hea, hec], B4.out⟩
end Go.Proofs.YtofikmdfiimbbaaDoor
