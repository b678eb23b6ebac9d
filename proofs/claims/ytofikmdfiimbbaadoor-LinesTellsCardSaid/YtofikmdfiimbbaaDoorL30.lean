/- Join, the document's way. -/
import Derived.Test.YtofikmdfiimbbaaDoorL27
import Derived.Test.YtofikmdfiimbbaaDoorL11
import Derived.Test.YtofikmdfiimbbaaDoorPk
import Derived.Deep.Cut
import Derived.Deep.CutRange
set_option linter.unusedVariables false
set_option linter.unusedSimpArgs false
namespace Go.Proofs.YtofikmdfiimbbaaDoor
open Go.RowKit
attribute [local go_sem ↓] run_string_add_sum
theorem mk_list2 (T : ByteArray) : (⟨T.data.toList.toArray⟩ : ByteArray) = T := by
  apply ByteArray.ext
  simp
set_option maxRecDepth 100000 in
set_option maxHeartbeats 8000000 in
theorem join15_any (ls : List Ln.Line) (at0 : Option Addr) (g o n cap : Nat) (hn : ls.length = n) (hn2 : n ≤ 100000) (hz : ∀ x ∈ ls, x.s.length ≤ 100000) (w : World) (hL : LA w at0 g o ls) :
    Calls Tryd.prog 15 #[.slice at0 n cap] w fun e w' => e = .returned (.tuple #[.string ⟨(Ln.join ls).1.toArray⟩, .int .i64 (Ln.join ls).2]) ∧ Below w.heap.size w w' := by
  obtain ⟨J1, hJ1⟩ : ∃ J1 : ByteArray, (⟨(Ln.join ls).1.toArray⟩ : ByteArray) = J1 := ⟨_, rfl⟩
  obtain ⟨J2, hJ2⟩ : ∃ J2, (Ln.join ls).2 = J2 := ⟨_, rfl⟩
  rw [hJ1, hJ2]
  have hbadj : Ln.mays 0 ls = false → J1 = ⟨#[]⟩ ∧ J2 = 2 := by
    intro h
    rw [← hJ1, ← hJ2]
    unfold Ln.join
    rw [if_pos h]
    exact ⟨rfl, rfl⟩
  have HBJ := Lib.hid hbadj
  have HJ1 := Lib.hid hJ1
  have HJ2 := Lib.hid hJ2
  have HN := Lib.hid hn
  have HZ := Lib.hid hz
  have HL := Lib.hid hL
  clear hJ1 hJ2 hn hz hL hbadj
  go_enter Tryd.func15, Tryd.ntmps15
  go_wp2_with fail
  go_loopw [4, 5, 6] (fun a b c wr => ∃ (i : Nat) (last sz : Int), a = .int .i64 last ∧ b = .int .i64 sz ∧ c = .int .i64 (i : Int) ∧ i ≤ n ∧ 0 ≤ last ∧ last ≤ 8000 ∧ 0 ≤ sz ∧ sz ≤ (i : Int) * 1100000 ∧ Ln.mays last (ls.drop i) = Ln.mays 0 ls ∧ (Ln.mays 0 ls = true → sz + Ln.size last (ls.drop i) = Ln.size 0 ls) ∧ Below w.heap.size w wr) (fun _ _ c _ => n - (Lib.intOf c).toNat)
  case atStart => exact ⟨0, 0, 0, rfl, rfl, rfl, Nat.zero_le _, by omega, by omega, by omega, by omega, by rw [List.drop_zero], fun _ => by rw [List.drop_zero]; omega, Below.refl _ _⟩
  case round =>
    obtain ⟨i, last, sz, rfl, rfl, rfl, hin, l0, l1, s0, s1, hm, hs, hb⟩ := hrel
    by_cases hi : i < n
    · have h1 : (i : Int) < (n : Int) := by omega
      obtain ⟨x, hx⟩ : ∃ x, ls[i]? = some x := ⟨_, List.getElem?_eq_getElem (by rw [HN.out]; exact hi)⟩
      have hd := drop_cons ls i x hx
      obtain ⟨ha, hg, hc⟩ := (HL.out.keep hb) (by intro e; rw [e] at hx; simp at hx)
      subst ha
      obtain ⟨c0, c1, c2⟩ := hc i x hx
      have hxz := HZ.out x (List.mem_of_getElem? hx)
      rw [hd] at hm hs
      obtain ⟨no, ind, s⟩ := x
      simp only at c0 c1 c2 hxz
      obtain ⟨S, hS⟩ : ∃ S : ByteArray, (⟨s.toArray⟩ : ByteArray) = S := ⟨_, rfl⟩
      have hSs : s = S.data.toList := by rw [← hS]
      rw [hS] at c2
      subst hSs
      have hxz2 : S.size ≤ 100000 := by rw [← text_size]; exact hxz
      have hmd := Ln.may_doc last ⟨no, ind, S.data.toList⟩
      simp only [text_size] at hmd
      have HHD := Lib.hid hd
      have HHM := Lib.hid hm
      have HHS := Lib.hid hs
      have HB := Lib.hid hb
      have HMD := Lib.hid hmd
      have hrej : Ln.may last ⟨no, ind, S.data.toList⟩ = false → J1 = ⟨#[]⟩ ∧ J2 = 2 := by
        intro h
        apply HBJ.out
        rw [← HHM.out]
        show (Ln.may last ⟨no, ind, S.data.toList⟩ && _) = false
        rw [h]
        rfl
      have HREJ := Lib.hid hrej
      clear hd hm hs hc hx hb hS hmd hrej hxz
      go_upto_region 7 with (fail)
      have hb2 : Below w.heap.size w (wr.alloc (Obj.cells #[Value.int IntKind.i64 no, Value.int IntKind.i64 ind, Value.string S] 36)) := HB.out.alloc HB.out.size _
      have hx1 := alloc_heap wr (Obj.cells #[Value.int IntKind.i64 no, Value.int IntKind.i64 ind, Value.string S] 36)
      clear c0 c1 c2
      generalize wr.alloc (Obj.cells #[Value.int IntKind.i64 no, Value.int IntKind.i64 ind, Value.string S] 36) = W1 at hb2 hx1 ⊢
      generalize wr.heap.size = q at hx1 ⊢
      have d0 : W1.cell? ⟨q, 0, none⟩ = some (.int .i64 no) := cell_of hx1 0
      have d1 : W1.cell? ⟨q, 1, none⟩ = some (.int .i64 ind) := cell_of hx1 1
      have d2 : W1.cell? ⟨q, 2, none⟩ = some (.string S) := cell_of hx1 2
      have HX1 := Lib.hid hx1
      have HB2 := Lib.hid hb2
      clear hx1 hb2
      by_cases hc : no ≤ last
      · obtain ⟨rfl, rfl⟩ := HREJ.out (Bool.eq_false_iff.2 fun h => by have m := HMD.out.1 h; have := m.1; omega)
        go_wp2_with fail
        go_ret2
        exact ⟨rfl, HB2.out⟩
      have k0 : last < no := by omega
      clear hc
      by_cases hc : 8000 < no
      · obtain ⟨rfl, rfl⟩ := HREJ.out (Bool.eq_false_iff.2 fun h => by have m := HMD.out.1 h; have := m.2.1; omega)
        go_wp2_with fail
        go_ret2
        exact ⟨rfl, HB2.out⟩
      have k1 : no ≤ 8000 := by omega
      clear hc
      by_cases hc : ind < 0
      · obtain ⟨rfl, rfl⟩ := HREJ.out (Bool.eq_false_iff.2 fun h => by have m := HMD.out.1 h; have := m.2.2.1; omega)
        go_wp2_with fail
        go_ret2
        exact ⟨rfl, HB2.out⟩
      have k2 : 0 ≤ ind := by omega
      clear hc
      by_cases hc : 8000 < ind
      · obtain ⟨rfl, rfl⟩ := HREJ.out (Bool.eq_false_iff.2 fun h => by have m := HMD.out.1 h; have := m.2.2.2.1; omega)
        go_wp2_with fail
        go_ret2
        exact ⟨rfl, HB2.out⟩
      have k3 : ind ≤ 8000 := by omega
      clear hc
      by_cases hc : S.size = 0
      · have he : S = ⟨#[]⟩ := by
          apply ByteArray.ext
          apply Array.toList_inj.1
          have : S.data.toList.length = 0 := by rw [text_size]; exact hc
          exact List.eq_nil_of_length_eq_zero this
        obtain ⟨rfl, rfl⟩ := HREJ.out (Bool.eq_false_iff.2 fun h => by have m := HMD.out.1 h; exact m.2.2.2.2.1 (by rw [he]))
        subst he
        go_wp2_with fail
        go_ret2
        exact ⟨rfl, HB2.out⟩
      have k4 : 0 < S.size := by omega
      have hne : S.data.toList ≠ [] := by intro e; have := text_size S; rw [e] at this; simp at this; omega
      have e1 : (S.toList == []) = false := by
        rw [ByteArray.toList_eq]
        cases hl : S.data.toList with
        | nil => exact absurd hl hne
        | cons _ _ => rfl
      have e2 : S.toList.isEmpty = false := by
        rw [ByteArray.toList_eq]
        cases hl : S.data.toList with
        | nil => exact absurd hl hne
        | cons _ _ => rfl
      have e3 : ¬ S.toList = [] := by rw [ByteArray.toList_eq]; exact hne
      clear hc
      obtain ⟨R, hR⟩ : ∃ b, Ln.right S.data.toList = b := ⟨_, rfl⟩
      obtain ⟨P, hP⟩ : ∃ b, Ln.plainB S.data.toList = b := ⟨_, rfl⟩
      obtain ⟨M, hM⟩ : ∃ b, Ln.markB S.data.toList = b := ⟨_, rfl⟩
      have hcp := fun w => plain17_any S hxz2 R P hR hP w
      have hcm := fun w => mark24_any S (by omega) w
      rw [hM] at hcm
      have hmd := HMD.out
      rw [hR, hP, hM] at hmd
      obtain ⟨RP, hRP⟩ : ∃ b, (R && P) = b := ⟨_, rfl⟩
      rw [hRP] at hmd
      simp only [hRP] at hcp
      have HMD := Lib.hid hmd
      have HCP := Lib.hid hcp
      have HCM := Lib.hid hcm
      clear hcp hcm hmd hR hP hM hRP
      cases RP with
      | false =>
        obtain ⟨rfl, rfl⟩ := HREJ.out (Bool.eq_false_iff.2 fun h => by have m := HMD.out.1 h; exact absurd m.2.2.2.2.2.1 (by decide))
        clear hne
        go_wp2_with fail
        refine (HCP.out _).mono ?_
        rintro e w2 ⟨rfl, hb3⟩
        have HB3 := Lib.hid (HB2.out.trans (hb3.mono HB2.out.size))
        clear hb3
        go_wp2_with fail
        go_ret2
        exact ⟨rfl, HB3.out⟩
      | true =>
        clear hne
        go_wp2_with fail
        refine (HCP.out _).mono ?_
        rintro e w2 ⟨rfl, hb3⟩
        have hx2 := (hb3.block q (lt_of_heap HX1.out)).trans HX1.out
        have HB3 := Lib.hid (HB2.out.trans (hb3.mono HB2.out.size))
        have f0 : w2.cell? ⟨q, 0, none⟩ = some (.int .i64 no) := cell_of hx2 0
        have f1 : w2.cell? ⟨q, 1, none⟩ = some (.int .i64 ind) := cell_of hx2 1
        have f2 : w2.cell? ⟨q, 2, none⟩ = some (.string S) := cell_of hx2 2
        clear hb3 hx2 d0 d1 d2 e1 e2 e3
        go_upto_region 9 with (fail)
        have hix := fun w => idx9 S 0 0 rfl k4 w
        have hlx := fun w => idx9 S ((S.size - 1 : Nat) : Int) (S.size - 1) rfl (by omega) w
        have vl : IntKind.i64.wrap ((S.size : Int) - 1) = ((S.size - 1 : Nat) : Int) := by rw [IntWalk.i64_in _ (by omega)]; omega
        obtain ⟨c, hcc⟩ : ∃ c, Ln.nat S.data.toList 0 = c := ⟨_, rfl⟩
        obtain ⟨z, hzz⟩ : ∃ c, Ln.nat S.data.toList (S.size - 1) = c := ⟨_, rfl⟩
        have hmd := HMD.out
        rw [hcc, hzz] at hmd
        rw [hcc] at hix
        rw [hzz] at hlx
        have HMD := Lib.hid hmd
        clear hmd hcc hzz
        obtain ⟨e', he'⟩ : ∃ e', S.size - 1 = e' := ⟨_, rfl⟩
        rw [he'] at hlx vl
        clear he'
        by_cases hc : c = 32
        · obtain ⟨rfl, rfl⟩ := HREJ.out (Bool.eq_false_iff.2 fun h => by have m := HMD.out.1 h; exact m.2.2.2.2.2.2.1 hc)
          subst hc
          go_wp2_with fail
          go_ret2
          exact ⟨rfl, HB3.out⟩
        have q0 : ((c : Int) == 32) = false := by
          have : ¬ (c : Int) = 32 := by omega
          simpa using this
        have q0n := hc
        clear hc
        by_cases hc : c = 35
        · obtain ⟨rfl, rfl⟩ := HREJ.out (Bool.eq_false_iff.2 fun h => by have m := HMD.out.1 h; exact m.2.2.2.2.2.2.2.1 hc)
          subst hc
          go_wp2_with fail
          go_ret2
          exact ⟨rfl, HB3.out⟩
        have q1 : ((c : Int) == 35) = false := by
          have : ¬ (c : Int) = 35 := by omega
          simpa using this
        have q1n := hc
        clear hc
        by_cases hc : z = 32
        · obtain ⟨rfl, rfl⟩ := HREJ.out (Bool.eq_false_iff.2 fun h => by have m := HMD.out.1 h; exact m.2.2.2.2.2.2.2.2.1 hc)
          subst hc
          go_wp2_with fail
          go_ret2
          exact ⟨rfl, HB3.out⟩
        have q2 : ((z : Int) == 32) = false := by
          have : ¬ (z : Int) = 32 := by omega
          simpa using this
        have q2n := hc
        clear hc
        have hrest : ∀ wz : World, Below w.heap.size w wz → True := fun _ _ => trivial
        clear hrest
        by_cases hind : ind = 0
        · subst hind
          cases M with
          | true =>
            obtain ⟨rfl, rfl⟩ := HREJ.out (Bool.eq_false_iff.2 fun h => by have m := HMD.out.1 h; exact m.2.2.2.2.2.2.2.2.2 ⟨rfl, rfl⟩)
            go_wp2_with fail
            refine (HCM.out _).mono ?_
            rintro e w3 ⟨rfl, rfl⟩
            go_wp2_with fail
            go_ret2
            exact ⟨rfl, HB3.out⟩
          | false =>
            have hmy : Ln.may last ⟨no, 0, S.data.toList⟩ = true := HMD.out.2 ⟨by omega, by omega, by omega, by omega, by intro e; have := text_size S; rw [e] at this; simp at this; omega, by trivial, q0n, q1n, q2n, fun h => absurd h.2 (by decide)⟩
            have hms : Ln.mays no (ls.drop (i + 1)) = Ln.mays 0 ls := by
              rw [← HHM.out]
              show _ = (Ln.may last ⟨no, 0, S.data.toList⟩ && _)
              rw [hmy, Bool.true_and]
            have hss : Ln.mays 0 ls = true → sz + ((no - last + 0 + (S.size : Int)) + Ln.size no (ls.drop (i + 1))) = Ln.size 0 ls := by
              intro h
              have := HHS.out h
              have e : Ln.size last (⟨no, 0, S.data.toList⟩ :: ls.drop (i + 1)) = (no - last + 0 + (S.data.toList.length : Int)) + Ln.size no (ls.drop (i + 1)) := rfl
              rw [e, text_size] at this
              exact this
            have HMS := Lib.hid hms
            have HSS := Lib.hid hss
            have v1 : IntKind.i64.wrap (sz + no) = sz + no := IntWalk.i64_in _ (by omega)
            have v2 : IntKind.i64.wrap (sz + no - last) = sz + no - last := IntWalk.i64_in _ (by omega)
            have v4 : IntKind.i64.wrap (sz + no - last + (S.size : Int)) = sz + no - last + (S.size : Int) := IntWalk.i64_in _ (by omega)
            have v5 : IntKind.i64.wrap ((i : Int) + 1) = (i : Int) + 1 := IntWalk.i64_in _ (by omega)
            clear hmy hms hss HMD HCP
            go_wp2_with fail
            refine (HCM.out _).mono ?_
            rintro e w3 ⟨rfl, hw3⟩
            obtain rfl := hw3.symm
            go_wp2_with fail
            go_roundw
            case rel =>
              refine ⟨i + 1, no, sz + no - last + (S.size : Int), rfl, rfl, by simp, by omega, by omega, by omega, by omega, by omega, HMS.out, fun h => ?_, HB3.out⟩
              have := HSS.out h
              omega
            case measure => simp [Lib.intOf]; omega
        · have q3 : ((ind : Int) == 0) = false := by simpa using hind
          have hmy : Ln.may last ⟨no, ind, S.data.toList⟩ = true := HMD.out.2 ⟨by omega, by omega, by omega, by omega, by intro e; have := text_size S; rw [e] at this; simp at this; omega, by trivial, q0n, q1n, q2n, fun h => hind h.1⟩
          have hms : Ln.mays no (ls.drop (i + 1)) = Ln.mays 0 ls := by
            rw [← HHM.out]
            show _ = (Ln.may last ⟨no, ind, S.data.toList⟩ && _)
            rw [hmy, Bool.true_and]
          have hss : Ln.mays 0 ls = true → sz + ((no - last + ind + (S.size : Int)) + Ln.size no (ls.drop (i + 1))) = Ln.size 0 ls := by
            intro h
            have := HHS.out h
            have e : Ln.size last (⟨no, ind, S.data.toList⟩ :: ls.drop (i + 1)) = (no - last + ind + (S.data.toList.length : Int)) + Ln.size no (ls.drop (i + 1)) := rfl
            rw [e, text_size] at this
            exact this
          have HMS := Lib.hid hms
          have HSS := Lib.hid hss
          have v1 : IntKind.i64.wrap (sz + no) = sz + no := IntWalk.i64_in _ (by omega)
          have v2 : IntKind.i64.wrap (sz + no - last) = sz + no - last := IntWalk.i64_in _ (by omega)
          have v3 : IntKind.i64.wrap (sz + no - last + ind) = sz + no - last + ind := IntWalk.i64_in _ (by omega)
          have v4 : IntKind.i64.wrap (sz + no - last + ind + (S.size : Int)) = sz + no - last + ind + (S.size : Int) := IntWalk.i64_in _ (by omega)
          have v5 : IntKind.i64.wrap ((i : Int) + 1) = (i : Int) + 1 := IntWalk.i64_in _ (by omega)
          clear hmy hms hss HMD HCP HCM
          go_wp2_with fail
          go_roundw
          case rel =>
            refine ⟨i + 1, no, sz + no - last + ind + (S.size : Int), rfl, rfl, by simp, by omega, by omega, by omega, by omega, by omega, HMS.out, fun h => ?_, HB3.out⟩
            have := HSS.out h
            omega
          case measure => simp [Lib.intOf]; omega
    · have h1 : ¬ (i : Int) < (n : Int) := by omega
      have hd : ls.drop i = [] := List.drop_eq_nil_of_le (by rw [HN.out]; omega)
      rw [hd] at hm hs
      have hmt : Ln.mays 0 ls = true := hm.symm
      have hst : sz = Ln.size 0 ls := by have := hs hmt; simpa [Ln.size] using this
      have HB := Lib.hid hb
      clear hb hd hm hs
      by_cases h8 : (8000 : Int) < sz
      · have hj : Ln.join ls = ([], 20) := by unfold Ln.join; rw [if_neg (by rw [hmt]; decide), if_pos (by omega)]
        have e1 := HJ1.out
        have e2 := HJ2.out
        rw [hj] at e1 e2
        obtain rfl := e1
        obtain rfl := e2
        clear hmt hj hst
        go_wp2_with fail
        go_ret2
        exact ⟨rfl, HB.out⟩
      · have hj : Ln.join ls = (Ln.text 0 ls, 0) := by unfold Ln.join; rw [if_neg (by rw [hmt]; decide), if_neg (by omega)]
        have e1 := HJ1.out
        have e2 := HJ2.out
        rw [hj] at e1 e2
        obtain rfl := e2
        have htl := Ln.text_length 0 ls hmt
        have htz : (Ln.text 0 ls).length ≤ 8000 := by omega
        have HT := Lib.hid e1
        have HMT := Lib.hid hmt
        have HTZ := Lib.hid htz
        clear e1 hmt hj hst htl htz HJ1 HJ2 HBJ
        go_wp2_with fail
        go_loopw [8, 9, 10] (fun a b c wx => ∃ (j : Nat) (last' : Int) (DN : ByteArray), a = .string DN ∧ b = .int .i64 (last' + 1) ∧ c = .int .i64 (j : Int) ∧ j ≤ n ∧ 0 ≤ last' ∧ last' ≤ 8000 ∧ Ln.mays last' (ls.drop j) = true ∧ DN.data.toList ++ Ln.text last' (ls.drop j) = Ln.text 0 ls ∧ wx = wr) (fun _ _ c _ => n - (Lib.intOf c).toNat)
        case atStart => exact ⟨0, 0, ⟨#[]⟩, rfl, rfl, rfl, Nat.zero_le _, by omega, by omega, by rw [List.drop_zero]; exact HMT.out, by rw [List.drop_zero]; rfl, rfl⟩
        case round =>
          obtain ⟨j, la, DN, rfl, rfl, rfl, hjn, la0, la1, hm, ht, hwr⟩ := hrel
          obtain rfl := hwr.symm
          have HM := Lib.hid hm
          have HTX := Lib.hid ht
          clear hm ht
          by_cases hj : j < n
          · have h1 : (j : Int) < (n : Int) := by omega
            obtain ⟨x, hx⟩ : ∃ x, ls[j]? = some x := ⟨_, List.getElem?_eq_getElem (by rw [HN.out]; exact hj)⟩
            have hd := drop_cons ls j x hx
            obtain ⟨ha, hg, hc⟩ := (HL.out.keep HB.out) (by intro e; rw [e] at hx; simp at hx)
            subst ha
            obtain ⟨c0, c1, c2⟩ := hc j x hx
            have hm := HM.out
            have ht := HTX.out
            rw [hd] at hm ht
            obtain ⟨hm1, hm2⟩ := Bool.and_eq_true_iff.1 hm
            obtain ⟨p0, p1, p2, p3, _⟩ := Ln.may_six hm1
            obtain ⟨no, ind, s⟩ := x
            simp only at c0 c1 c2 p0 p1 p2 p3 hm2
            obtain ⟨S, hS⟩ : ∃ S : ByteArray, (⟨s.toArray⟩ : ByteArray) = S := ⟨_, rfl⟩
            have hSs : s = S.data.toList := by rw [← hS]
            rw [hS] at c2
            subst hSs
            have htx : DN.data.toList ++ ((List.replicate (no - la - 1).toNat 10 ++ List.replicate ind.toNat 32 ++ S.data.toList ++ [10]) ++ Ln.text no (ls.drop (j + 1))) = Ln.text 0 ls := ht
            have hlen := congrArg List.length htx
            simp only [List.length_append, List.length_replicate, List.length_cons, List.length_nil, text_size] at hlen
            have htz := HTZ.out
            obtain ⟨u, hu⟩ : ∃ u : Nat, no - la - 1 = (u : Int) := ⟨(no - la - 1).toNat, by omega⟩
            obtain ⟨v, hv⟩ : ∃ v : Nat, ind = (v : Int) := ⟨ind.toNat, by omega⟩
            rw [show (no - la - 1).toNat = u by omega, show ind.toNat = v by omega] at htx hlen
            have hbound : DN.size + u + v + S.size + 1 ≤ 8000 := by omega
            have HTX2 := Lib.hid htx
            have HM2 := Lib.hid hm2
            clear htx hlen htz hd hm ht hm1 hm2 hx hc hS HM HTX
            have v5 : IntKind.i64.wrap ((j : Int) + 1) = (j : Int) + 1 := IntWalk.i64_in _ (by omega)
            subst hv
            obtain rfl : no = la + 1 + (u : Int) := by omega
            clear hu
            go_upto_block 4 with (fail)
            go_cut [8, 9] from 105 to 116 (fun a b wx => ∃ DN' : ByteArray, a = .string DN' ∧ b = .int .i64 (la + 1 + (u : Int)) ∧ DN'.data.toList = DN.data.toList ++ List.replicate u 10 ∧ wx = wr)
            case first =>
              go_wp2_with fail
              go_loopw [8, 9] (fun a b wx => ∃ (m : Nat) (D : ByteArray), a = .string D ∧ b = .int .i64 (la + 1 + (m : Int)) ∧ m ≤ u ∧ D.data.toList = DN.data.toList ++ List.replicate m 10 ∧ wx = wr) (fun _ b _ => (la + 1 + (u : Int) - Lib.intOf b).toNat)
              case atStart => exact ⟨0, DN, rfl, by simp, Nat.zero_le _, by simp, rfl⟩
              case round =>
                obtain ⟨m, D, rfl, rfl, hmu, hDl, hw⟩ := hrel
                obtain rfl := hw.symm
                have hDz : D.size = DN.size + m := by rw [← text_size, hDl, List.length_append, List.length_replicate, text_size]
                have HDL := Lib.hid hDl
                clear hDl
                by_cases hlt : m < u
                · have i1 : la + 1 + (m : Int) < la + 1 + (u : Int) := by omega
                  have b1 : D.size + 1 ≤ 9223372036854775807 := by omega
                  have v6 : IntKind.i64.wrap (la + 1 + (m : Int) + 1) = la + 1 + (m : Int) + 1 := IntWalk.i64_in _ (by omega)
                  clear hDz
                  go_wp2_with fail
                  go_roundw
                  case rel => exact ⟨m + 1, D ++ ⟨#[10]⟩, rfl, by simp; omega, by omega, by rw [ByteArray.data_append, Array.toList_append, HDL.out, List.replicate_succ', List.append_assoc], trivial⟩
                  case measure => simp [Lib.intOf]; omega
                · obtain rfl : m = u := by omega
                  have i1 : ¬ (la + 1 + (m : Int) < la + 1 + (m : Int)) := by omega
                  clear hDz
                  go_wp2_with fail
                  go_meet
                  exact ⟨D, rfl, rfl, HDL.out, rfl⟩
            case rest =>
              obtain ⟨D1, rfl, rfl, hD1, hw⟩ := hcut
              obtain rfl := hw.symm
              have hD1z : D1.size = DN.size + u := by rw [← text_size, hD1, List.length_append, List.length_replicate, text_size]
              have HD1 := Lib.hid hD1
              clear hD1
              go_upto_block 6 with (fail)
              go_cut [8, 11] from 116 to 127 (fun a b wx => ∃ DN' : ByteArray, a = .string DN' ∧ b = .int .i64 (v : Int) ∧ DN'.data.toList = D1.data.toList ++ List.replicate v 32 ∧ wx = wr)
              case first =>
                go_wp2_with fail
                go_loopw [8, 11] (fun a b wx => ∃ (m : Nat) (D : ByteArray), a = .string D ∧ b = .int .i64 (m : Int) ∧ m ≤ v ∧ D.data.toList = D1.data.toList ++ List.replicate m 32 ∧ wx = wr) (fun _ b _ => v - (Lib.intOf b).toNat)
                case atStart => exact ⟨0, D1, rfl, rfl, Nat.zero_le _, by simp, rfl⟩
                case round =>
                  obtain ⟨m, D, rfl, rfl, hmu, hDl, hw⟩ := hrel
                  obtain rfl := hw.symm
                  have hDz : D.size = D1.size + m := by rw [← text_size, hDl, List.length_append, List.length_replicate, text_size]
                  have HDL := Lib.hid hDl
                  clear hDl
                  by_cases hlt : m < v
                  · have i1 : (m : Int) < (v : Int) := by omega
                    have b1 : D.size + 1 ≤ 9223372036854775807 := by omega
                    have v6 : IntKind.i64.wrap ((m : Int) + 1) = (m : Int) + 1 := IntWalk.i64_in _ (by omega)
                    clear hDz hD1z
                    go_wp2_with fail
                    go_roundw
                    case rel => exact ⟨m + 1, D ++ ⟨#[32]⟩, rfl, by simp, by omega, by rw [ByteArray.data_append, Array.toList_append, HDL.out, List.replicate_succ', List.append_assoc], trivial⟩
                    case measure => simp [Lib.intOf]; omega
                  · obtain rfl : m = v := by omega
                    have i1 : ¬ ((m : Int) < (m : Int)) := by omega
                    clear hDz hD1z
                    go_wp2_with fail
                    go_meet
                    exact ⟨D, rfl, rfl, HDL.out, rfl⟩
              case rest =>
                obtain ⟨D2, rfl, rfl, hD2, hw⟩ := hcut
                obtain rfl := hw.symm
                have hD2z : D2.size = D1.size + v := by rw [← text_size, hD2, List.length_append, List.length_replicate, text_size]
                have b1 : D2.size + S.size ≤ 9223372036854775807 := by omega
                have b2 : D2.size + S.size + 1 ≤ 9223372036854775807 := by omega
                have v6 : IntKind.i64.wrap (la + 1 + (u : Int) + 1) = la + 1 + (u : Int) + 1 := IntWalk.i64_in _ (by omega)
                have HD2 := Lib.hid hD2
                clear hD2 hD2z hD1z
                go_wp2_with fail
                go_roundw
                case rel =>
                  refine ⟨j + 1, la + 1 + (u : Int), D2 ++ S ++ ⟨#[10]⟩, rfl, rfl, by simp, by omega, by omega, by omega, HM2.out, ?_, trivial⟩
                  rw [← HTX2.out, ByteArray.data_append, Array.toList_append, ByteArray.data_append, Array.toList_append, HD2.out, HD1.out]
                  simp
                case measure => simp [Lib.intOf]; omega
          · have h1 : ¬ (j : Int) < (n : Int) := by omega
            have hd : ls.drop j = [] := List.drop_eq_nil_of_le (by rw [HN.out]; omega)
            have ht := HTX.out
            rw [hd] at ht
            have ht2 : DN.data.toList = Ln.text 0 ls := by rw [← ht]; simp [Ln.text]
            obtain rfl : DN = J1 := by rw [← HT.out, ← ht2, mk_list2]
            clear hd ht ht2
            go_wp2_with fail
            go_ret2
            exact ⟨rfl, HB.out⟩
end Go.Proofs.YtofikmdfiimbbaaDoor
