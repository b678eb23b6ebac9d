/- LinesFirst. -/
import Derived.Test.YtofikmdfiimbbaaDoorL15
import Derived.Test.YtofikmdfiimbbaaDoorPg
import Derived.BigQuiet
set_option linter.unusedVariables false
set_option linter.unusedSimpArgs false
namespace Go.Proofs.YtofikmdfiimbbaaDoor
open Go.RowKit
theorem front_list (s : ByteArray) (k : Nat) : (s.extract 0 k).data.toList = s.data.toList.take k := by
  rw [ByteArray.data_extract, Array.toList_extract, List.extract_eq_take_drop, List.drop_zero, Nat.sub_zero]
theorem take_next (s : ByteArray) (k : Nat) (h : k < s.size) : s.data.toList.take (k + 1) = s.data.toList.take k ++ [s[k]'h] := by
  have h1 : k < s.data.toList.length := by rw [text_size]; exact h
  rw [List.take_add_one, List.getElem?_eq_getElem h1]
  rfl
theorem eqL_refl (n i : Int) (s : ByteArray) : eqL n i s n i s = true := by
  rw [eqL_iff]
  simp
/-- How many rows end in the first k bytes. -/
def ends (s : ByteArray) (k : Nat) : Nat := (s.data.toList.take k).count 10
theorem ends_zero (s : ByteArray) : ends s 0 = 0 := rfl
theorem ends_yes (s : ByteArray) (k : Nat) (h : k < s.size) (hc : ((s[k]'h).toNat : Int) = 10) : ends s (k + 1) = ends s k + 1 := by
  have : (s[k]'h) = 10 := UInt8.toNat_inj.1 (by show (s[k]'h).toNat = 10; omega)
  unfold ends
  rw [take_next s k h, List.count_append, this]
  rfl
theorem ends_no (s : ByteArray) (k : Nat) (h : k < s.size) (hc : ¬ ((s[k]'h).toNat : Int) = 10) : ends s (k + 1) = ends s k := by
  have : ¬ (s[k]'h) = 10 := fun e => hc (by rw [e]; rfl)
  unfold ends
  rw [take_next s k h, List.count_append]
  simp [this]
set_option maxRecDepth 100000 in
set_option maxHeartbeats 4000000 in
theorem first_law (s : ByteArray) (n : Int) (hs : s.size ≤ maxLen) (w : World) (hG : Glob w) : Calls Tryd.prog 8 #[.string s, .int .i64 n] w fun e w' => e = .returned (.bool true) ∧ Below w.heap.size w w' := by
  have h0 : s.size ≤ 9223372036854775807 := by unfold maxLen at hs; omega
  have HCZ := cutB_size s
  obtain ⟨C, hC⟩ : ∃ C, cutB s = C := ⟨_, rfl⟩
  have hcut := fun w => cut_any s h0 w
  rw [hC] at hcut HCZ
  obtain ⟨ls, hls⟩ : ∃ ls, (Ln.split C.data.toList).1 = ls := ⟨_, rfl⟩
  obtain ⟨no, hno⟩ : ∃ no, (Ln.split C.data.toList).2.1 = no := ⟨_, rfl⟩
  obtain ⟨er, her⟩ : ∃ er, (Ln.split C.data.toList).2.2 = er := ⟨_, rfl⟩
  have hsp : Ln.split C.data.toList = (ls, no, er) := by rw [← hls, ← hno, ← her]
  have hlen := mem_len C.data.toList
  rw [hls, text_size] at hlen
  obtain ⟨N, hN⟩ : ∃ N, ls.length = N := ⟨_, rfl⟩
  rw [hN] at hlen
  have hcall := fun w hG => split_at2 C (by omega) ls no er hsp w hG
  rw [hN] at hcall
  have hfirst : er = 0 → ∀ (at' : Nat) (k : Nat), (C.data.toList.drop at' = [] ∨ (C.data.toList.take at' = [] ∧ k = 0) ∨ ∃ q, C.data.toList.take at' = q ++ [10] ∧ (C.data.toList.take at').count 10 = k) → ∃ m m', Ln.split (C.data.toList.take at') = (m, 0, 0) ∧ ls = m ++ m' ∧ ∀ x ∈ m', (k : Int) < x.no := by
    intro he at' k h
    have := Ln.split_first (C.data.toList.take at') (C.data.toList.drop at') k (by rw [List.take_append_drop, her]; exact he) h
    rw [List.take_append_drop, hls] at this
    exact this
  have HG := Lib.hid hG
  have HN := Lib.hid hN
  have HCUT := Lib.hid hcut
  have HCALL := Lib.hid hcall
  have HF := Lib.hid hfirst
  clear hG hN hcut hcall hsp hls hno her hC hfirst
  go_enter Tryd.func8, Tryd.ntmps8
  go_wp2_with fail
  refine (shown_any w HG.out).mono ?_
  rintro e w1 ⟨rfl, hb1⟩
  have G1 := Lib.hid (HG.out.step hb1)
  have B1 := Lib.hid hb1
  clear hb1
  go_wp2_with fail
  refine (HCUT.out _).mono ?_
  rintro e w1' ⟨rfl, rfl⟩
  go_wp2_with fail
  refine (HCALL.out w1' G1.out).mono ?_
  rintro e w2 ⟨⟨a2, g2, c2, rfl, hl2⟩, hb2⟩
  have B2 := Lib.hid (B1.out.trans (hb2.mono B1.out.size))
  have G2 := Lib.hid (G1.out.step hb2)
  have L2 := Lib.hid hl2
  clear hb2 hl2
  by_cases hz : er = 0
  · by_cases hn0 : n < 0
    · go_wp2_with fail
      go_ret
      exact ⟨rfl, B2.out⟩
    · have HFF := Lib.hid (HF.out hz)
      go_wp2_with fail
      go_loopw [9, 10] (fun a b wr => ∃ at' : Nat, a = .int .i64 (at' : Int) ∧ b = .int .i64 (ends C at' : Nat) ∧ at' ≤ C.size ∧ (ends C at' : Int) ≤ n ∧ ((ends C at' : Int) = n → at' = 0 ∨ ∃ q, C.data.toList.take at' = q ++ [10]) ∧ wr = w2) (fun a _ _ => C.size - (Lib.intOf a).toNat)
      case atStart => exact ⟨0, rfl, by rw [ends_zero]; rfl, Nat.zero_le _, by rw [ends_zero]; omega, fun _ => .inl rfl, rfl⟩
      case round =>
        obtain ⟨at', rfl, rfl, hat, hen, hp, rfl⟩ := hrel
        obtain ⟨r, hr⟩ : ∃ r, ends C at' = r := ⟨_, rfl⟩
        rw [hr] at hen hp ⊢
        by_cases ha : at' < C.size
        · have h1 : (at' : Int) < (C.size : Int) := by omega
          by_cases hrn : (r : Int) < n
          · have hk0 : (0 : Int) ≤ (at' : Int) := by omega
            have v1 : IntKind.i64.wrap ((at' : Int) + 1) = (at' : Int) + 1 := IntWalk.i64_in _ (by omega)
            have hrb : r ≤ C.size := by
              rw [← hr]
              unfold ends
              exact Nat.le_trans (List.count_le_length) (by rw [List.length_take]; omega)
            have v2 : IntKind.i64.wrap ((r : Int) + 1) = (r : Int) + 1 := IntWalk.i64_in _ (by omega)
            by_cases hc : ((C[at']'ha).toNat : Int) = 10
            · have hy := ends_yes C at' ha hc
              have ht := take_next C at' ha
              have hc10 : (C[at']'ha) = 10 := UInt8.toNat_inj.1 (by show (C[at']'ha).toNat = 10; omega)
              rw [hr] at hy
              have HY := Lib.hid hy
              have HT := Lib.hid ht
              have HC10 := Lib.hid hc10
              clear hy ht hc10 hp hr
              go_wp2_with fail
              go_roundw
              case rel => exact ⟨at' + 1, by simp, by rw [HY.out]; simp, by omega, by rw [HY.out]; omega, fun _ => .inr ⟨_, by rw [HT.out, HC10.out]⟩, trivial⟩
              case measure => simp [Lib.intOf]; omega
            · have hy := ends_no C at' ha hc
              rw [hr] at hy
              have HY := Lib.hid hy
              have hcb : (((C[at']'ha).toNat : Int) == 10) = false := by simpa using hc
              clear hy hp hr
              go_wp2_with fail
              go_roundw
              case rel => exact ⟨at' + 1, by simp, by rw [HY.out], by omega, by rw [HY.out]; omega, fun h => by rw [HY.out] at h; omega, trivial⟩
              case measure => simp [Lib.intOf]; omega
          · have hrn2 : (r : Int) = n := by omega
            have hres : ∃ m m', Ln.split (C.data.toList.take at') = (m, 0, 0) ∧ ls = m ++ m' ∧ ∀ x ∈ m', (n.toNat : Int) < x.no := by
              rcases hp hrn2 with h0' | ⟨q, hq⟩
              · subst h0'
                refine HFF.out 0 n.toNat (.inr (.inl ⟨rfl, ?_⟩))
                rw [ends_zero] at hr
                omega
              · refine HFF.out at' n.toNat (.inr (.inr ⟨q, hq, ?_⟩))
                have : (C.data.toList.take at').count 10 = r := hr
                omega
            obtain ⟨m, m', hm, hmm, hmx⟩ := hres
            obtain ⟨P, hP⟩ : ∃ P, C.extract 0 at' = P := ⟨_, rfl⟩
            have hPl : P.data.toList = C.data.toList.take at' := by rw [← hP, front_list]
            have hPz : P.size ≤ 1000000 := by
              rw [← text_size, hPl, List.length_take, text_size]
              omega
            have hk0 : (0 : Int) ≤ (at' : Int) := by omega
            have hk1 : (at' : Int) ≤ (C.size : Int) := by omega
            obtain ⟨M, hM⟩ : ∃ M, m.length = M := ⟨_, rfl⟩
            have hcall2 := fun w hG => split_at P _ hPl hPz m 0 0 hm w hG
            rw [hM] at hcall2
            have hML : M ≤ N := by rw [← hM, ← HN.out, hmm, List.length_append]; omega
            have HC2 := Lib.hid hcall2
            have HPP := Lib.hid hP
            have HMM := Lib.hid hmm
            have HMX := Lib.hid hmx
            have HM := Lib.hid hM
            clear hP hPl hm hmm hmx hM hcall2 hp hr HFF HF
            go_wp2_with fail
            rw [HPP.out]
            refine (HC2.out _ G2.out).mono ?_
            rintro e w3 ⟨⟨a3, g3, c3, rfl, hl3⟩, hb3⟩
            have B3 := Lib.hid (B2.out.trans (hb3.mono B2.out.size))
            have L3 := Lib.hid hl3
            have L23 := Lib.hid (L2.out.keep hb3)
            clear hb3 hl3
            go_wp2_with fail
            go_loopw [14] (fun a wr => ∃ i k : Nat, a = .int .i64 (i : Int) ∧ i ≤ M ∧ wr = w3.drewN k) (fun a _ => M - (Lib.intOf a).toNat)
            case atStart => exact ⟨0, 0, rfl, Nat.zero_le _, rfl⟩
            case round =>
              obtain ⟨i, k, rfl, hin, rfl⟩ := hrel
              by_cases hi : i < M
              · have h1' : (i : Int) < (M : Int) := by omega
                have h2' : ¬ (N : Int) ≤ (i : Int) := by omega
                have h3' : (i : Int) < (N : Int) := by omega
                obtain ⟨x, hx⟩ : ∃ x, m[i]? = some x := ⟨_, List.getElem?_eq_getElem (by rw [HM.out]; exact hi)⟩
                have hy : ls[i]? = some x := by rw [HMM.out, List.getElem?_append_left (by rw [HM.out]; exact hi)]; exact hx
                obtain ⟨ea, eg, ec⟩ := L3.out (by intro e; rw [e] at hx; simp at hx)
                obtain ⟨fa, fg, fc⟩ := L23.out (by intro e; rw [e] at hy; simp at hy)
                subst ea fa
                obtain ⟨x0, x1, x2⟩ := ec i x hx
                obtain ⟨y0, y1, y2⟩ := fc i x hy
                obtain ⟨n1, i1, s1⟩ := x
                simp only [Nat.zero_add] at x0 x1 x2 y0 y1 y2
                have v1 : IntKind.i64.wrap ((i : Int) + 1) = (i : Int) + 1 := IntWalk.i64_in _ (by omega)
                obtain ⟨S1, hS1⟩ : ∃ S : ByteArray, (⟨s1.toArray⟩ : ByteArray) = S := ⟨_, rfl⟩
                rw [hS1] at x2 y2
                have x0' : (w3.drewN k).cell? ⟨g3, i * 3, none⟩ = _ := x0
                have x1' : (w3.drewN k).cell? ⟨g3, i * 3 + 1, none⟩ = _ := x1
                have x2' : (w3.drewN k).cell? ⟨g3, i * 3 + 2, none⟩ = _ := x2
                have y0' : (w3.drewN k).cell? ⟨g2, i * 3, none⟩ = _ := y0
                have y1' : (w3.drewN k).cell? ⟨g2, i * 3 + 1, none⟩ = _ := y1
                have y2' : (w3.drewN k).cell? ⟨g2, i * 3 + 2, none⟩ = _ := y2
                have hre := eqL_refl n1 i1 S1
                obtain ⟨W, hW⟩ : ∃ W, w3.drewN k = W := ⟨_, rfl⟩
                rw [hW] at x0' x1' x2' y0' y1' y2'
                have HW := Lib.hid hW
                clear ec fc hx hy x0 x1 x2 y0 y1 y2 hS1
                rw [hW]
                clear hW
                go_upto_region 16 with (fail)
                go_quiet (fail)
                go_wp2_with fail
                go_roundw
                case rel => exact ⟨i + 1, k + nq, by simp, by omega, by rw [← HW.out, World.drewN_drewN]⟩
                case measure => simp [Lib.intOf]; omega
              · have h1' : ¬ (i : Int) < (M : Int) := by omega
                have B4 := Lib.hid (Below.drewN' B3.out k)
                cases hm' : m' with
                | nil =>
                  have hMN : M = N := by rw [← HM.out, ← HN.out, HMM.out, hm', List.append_nil]
                  subst hMN
                  clear hm'
                  go_wp2_with fail
                  go_ret
                  exact ⟨rfl, B4.out⟩
                | cons x xs =>
                  have hxx := HMX.out x (by rw [hm']; simp)
                  have hy : ls[M]? = some x := by rw [HMM.out, hm', List.getElem?_append_right (by rw [HM.out]; exact Nat.le_refl _), HM.out, Nat.sub_self]; rfl
                  have hMN : M < N := by
                    by_cases h : M < N
                    · exact h
                    · rw [List.getElem?_eq_none (by rw [HN.out]; omega)] at hy; simp at hy
                  obtain ⟨fa, fg, fc⟩ := L23.out (by intro e; rw [e] at hy; simp at hy)
                  subst fa
                  obtain ⟨y0, y1, y2⟩ := fc M x hy
                  simp only [Nat.zero_add] at y0
                  have y0' : (w3.drewN k).cell? ⟨g2, M * 3, none⟩ = _ := y0
                  have hne : ¬ (M : Int) = (N : Int) := by omega
                  have h5 : (M : Int) < (N : Int) := by omega
                  have h6 : n < x.no := by have := hxx; omega
                  clear hm' fc hy y0 y1 y2 hxx
                  go_wp2_with fail
                  go_ret
                  exact ⟨rfl, B4.out⟩
        · have h1 : ¬ (at' : Int) < (C.size : Int) := by omega
          have hres : ∃ m m', Ln.split (C.data.toList.take at') = (m, 0, 0) ∧ ls = m ++ m' ∧ ∀ x ∈ m', (n.toNat : Int) < x.no :=
            HFF.out at' n.toNat (.inl (List.drop_eq_nil_of_le (by rw [text_size]; omega)))
          obtain ⟨m, m', hm, hmm, hmx⟩ := hres
          obtain ⟨P, hP⟩ : ∃ P, C.extract 0 at' = P := ⟨_, rfl⟩
          have hPl : P.data.toList = C.data.toList.take at' := by rw [← hP, front_list]
          have hPz : P.size ≤ 1000000 := by
            rw [← text_size, hPl, List.length_take, text_size]
            omega
          have hk0 : (0 : Int) ≤ (at' : Int) := by omega
          have hk1 : (at' : Int) ≤ (C.size : Int) := by omega
          obtain ⟨M, hM⟩ : ∃ M, m.length = M := ⟨_, rfl⟩
          have hcall2 := fun w hG => split_at P _ hPl hPz m 0 0 hm w hG
          rw [hM] at hcall2
          have hML : M ≤ N := by rw [← hM, ← HN.out, hmm, List.length_append]; omega
          have HC2 := Lib.hid hcall2
          have HPP := Lib.hid hP
          have HMM := Lib.hid hmm
          have HMX := Lib.hid hmx
          have HM := Lib.hid hM
          clear hP hPl hm hmm hmx hM hcall2 hp hr HFF HF
          go_wp2_with fail
          rw [HPP.out]
          refine (HC2.out _ G2.out).mono ?_
          rintro e w3 ⟨⟨a3, g3, c3, rfl, hl3⟩, hb3⟩
          have B3 := Lib.hid (B2.out.trans (hb3.mono B2.out.size))
          have L3 := Lib.hid hl3
          have L23 := Lib.hid (L2.out.keep hb3)
          clear hb3 hl3
          go_wp2_with fail
          go_loopw [14] (fun a wr => ∃ i k : Nat, a = .int .i64 (i : Int) ∧ i ≤ M ∧ wr = w3.drewN k) (fun a _ => M - (Lib.intOf a).toNat)
          case atStart => exact ⟨0, 0, rfl, Nat.zero_le _, rfl⟩
          case round =>
            obtain ⟨i, k, rfl, hin, rfl⟩ := hrel
            by_cases hi : i < M
            · have h1' : (i : Int) < (M : Int) := by omega
              have h2' : ¬ (N : Int) ≤ (i : Int) := by omega
              have h3' : (i : Int) < (N : Int) := by omega
              obtain ⟨x, hx⟩ : ∃ x, m[i]? = some x := ⟨_, List.getElem?_eq_getElem (by rw [HM.out]; exact hi)⟩
              have hy : ls[i]? = some x := by rw [HMM.out, List.getElem?_append_left (by rw [HM.out]; exact hi)]; exact hx
              obtain ⟨ea, eg, ec⟩ := L3.out (by intro e; rw [e] at hx; simp at hx)
              obtain ⟨fa, fg, fc⟩ := L23.out (by intro e; rw [e] at hy; simp at hy)
              subst ea fa
              obtain ⟨x0, x1, x2⟩ := ec i x hx
              obtain ⟨y0, y1, y2⟩ := fc i x hy
              obtain ⟨n1, i1, s1⟩ := x
              simp only [Nat.zero_add] at x0 x1 x2 y0 y1 y2
              have v1 : IntKind.i64.wrap ((i : Int) + 1) = (i : Int) + 1 := IntWalk.i64_in _ (by omega)
              obtain ⟨S1, hS1⟩ : ∃ S : ByteArray, (⟨s1.toArray⟩ : ByteArray) = S := ⟨_, rfl⟩
              rw [hS1] at x2 y2
              have x0' : (w3.drewN k).cell? ⟨g3, i * 3, none⟩ = _ := x0
              have x1' : (w3.drewN k).cell? ⟨g3, i * 3 + 1, none⟩ = _ := x1
              have x2' : (w3.drewN k).cell? ⟨g3, i * 3 + 2, none⟩ = _ := x2
              have y0' : (w3.drewN k).cell? ⟨g2, i * 3, none⟩ = _ := y0
              have y1' : (w3.drewN k).cell? ⟨g2, i * 3 + 1, none⟩ = _ := y1
              have y2' : (w3.drewN k).cell? ⟨g2, i * 3 + 2, none⟩ = _ := y2
              have hre := eqL_refl n1 i1 S1
              obtain ⟨W, hW⟩ : ∃ W, w3.drewN k = W := ⟨_, rfl⟩
              rw [hW] at x0' x1' x2' y0' y1' y2'
              have HW := Lib.hid hW
              clear ec fc hx hy x0 x1 x2 y0 y1 y2 hS1
              rw [hW]
              clear hW
              go_upto_region 16 with (fail)
              go_quiet (fail)
              go_wp2_with fail
              go_roundw
              case rel => exact ⟨i + 1, k + nq, by simp, by omega, by rw [← HW.out, World.drewN_drewN]⟩
              case measure => simp [Lib.intOf]; omega
            · have h1' : ¬ (i : Int) < (M : Int) := by omega
              have B4 := Lib.hid (Below.drewN' B3.out k)
              cases hm' : m' with
              | nil =>
                have hMN : M = N := by rw [← HM.out, ← HN.out, HMM.out, hm', List.append_nil]
                subst hMN
                clear hm'
                go_wp2_with fail
                go_ret
                exact ⟨rfl, B4.out⟩
              | cons x xs =>
                have hxx := HMX.out x (by rw [hm']; simp)
                have hy : ls[M]? = some x := by rw [HMM.out, hm', List.getElem?_append_right (by rw [HM.out]; exact Nat.le_refl _), HM.out, Nat.sub_self]; rfl
                have hMN : M < N := by
                  by_cases h : M < N
                  · exact h
                  · rw [List.getElem?_eq_none (by rw [HN.out]; omega)] at hy; simp at hy
                obtain ⟨fa, fg, fc⟩ := L23.out (by intro e; rw [e] at hy; simp at hy)
                subst fa
                obtain ⟨y0, y1, y2⟩ := fc M x hy
                simp only [Nat.zero_add] at y0
                have y0' : (w3.drewN k).cell? ⟨g2, M * 3, none⟩ = _ := y0
                have hne : ¬ (M : Int) = (N : Int) := by omega
                have h5 : (M : Int) < (N : Int) := by omega
                have h6 : n < x.no := by have := hxx; omega
                clear hm' fc hy y0 y1 y2 hxx
                go_wp2_with fail
                go_ret
                exact ⟨rfl, B4.out⟩
  · go_wp2_with fail
    go_ret
    exact ⟨rfl, B2.out⟩
end Go.Proofs.YtofikmdfiimbbaaDoor
