/- Are two lists the same? The text's first bytes. -/
import Derived.Test.YtofikmdfiimbbaaDoorL11
import Derived.Test.YtofikmdfiimbbaaDoorEq
set_option linter.unusedVariables false
set_option linter.unusedSimpArgs false
namespace Go.Proofs.YtofikmdfiimbbaaDoor
open Go.RowKit
theorem line_eq (x y : Ln.Line) : ((x.no = y.no ∧ x.ind = y.ind) ∧ (x.s = y.s)) ↔ x = y := by
  obtain ⟨a, b, c⟩ := x
  obtain ⟨d, e, f⟩ := y
  simp [and_assoc]
set_option maxRecDepth 100000 in
set_option maxHeartbeats 2000000 in
theorem same_any (la lb : List Ln.Line) (a0 b0 : Option Addr) (ga oa gb ob na nb ca cb : Nat) (hna : la.length = na) (hnb : lb.length = nb) (hn2 : na ≤ 1000000) (w : World) (hA : LA w a0 ga oa la) (hB : LA w b0 gb ob lb) :
    Calls Tryd.prog 16 #[.slice a0 na ca, .slice b0 nb cb] w fun e w' => e = .returned (.bool (decide (la = lb))) ∧ ∃ m, w' = w.drewN m := by
  obtain ⟨R, hR⟩ : ∃ R, decide (la = lb) = R := ⟨_, rfl⟩
  rw [hR]
  have HR := Lib.hid hR
  have HA := Lib.hid hA
  have HB := Lib.hid hB
  have HNA := Lib.hid hna
  have HNB := Lib.hid hnb
  clear hR hA hB hna hnb
  by_cases hl : (na : Int) = (nb : Int)
  · obtain rfl : na = nb := by omega
    go_enter Tryd.func16, Tryd.ntmps16
    go_wp2_with fail
    go_loopw [5] (fun a wr => ∃ (i m : Nat), a = .int .i64 (i : Int) ∧ wr = w.drewN m ∧ i ≤ na ∧ decide (la.drop i = lb.drop i) = R) (fun a _ => na - (Lib.intOf a).toNat)
    case atStart => exact ⟨0, 0, rfl, rfl, Nat.zero_le _, by rw [List.drop_zero, List.drop_zero]; exact HR.out⟩
    case round =>
      obtain ⟨i, m, rfl, rfl, hin, hd⟩ := hrel
      by_cases hi : i < na
      · have h1 : (i : Int) < (na : Int) := by omega
        obtain ⟨x, hx⟩ : ∃ x, la[i]? = some x := ⟨_, List.getElem?_eq_getElem (by rw [HNA.out]; exact hi)⟩
        obtain ⟨y, hy⟩ : ∃ y, lb[i]? = some y := ⟨_, List.getElem?_eq_getElem (by rw [HNB.out]; exact hi)⟩
        obtain ⟨ea, eg, ec⟩ := HA.out (by intro e; rw [e] at hx; simp at hx)
        obtain ⟨fa, fg, fc⟩ := HB.out (by intro e; rw [e] at hy; simp at hy)
        subst ea fa
        obtain ⟨x0, x1, x2⟩ := ec i x hx
        obtain ⟨y0, y1, y2⟩ := fc i y hy
        rw [drop_cons la i x hx, drop_cons lb i y hy] at hd
        obtain ⟨n1, i1, s1⟩ := x
        obtain ⟨n2, i2, s2⟩ := y
        simp only at x0 x1 x2 y0 y1 y2
        have hd2 : decide (((n1 = n2 ∧ i1 = i2) ∧ s1 = s2) ∧ la.drop (i + 1) = lb.drop (i + 1)) = R := by
          rw [← hd]
          simp [and_assoc]
        have v1 : IntKind.i64.wrap ((i : Int) + 1) = (i : Int) + 1 := IntWalk.i64_in _ (by omega)
        have x0' : (w.drewN m).cell? ⟨ga, oa + i * 3, none⟩ = _ := x0
        have x1' : (w.drewN m).cell? ⟨ga, oa + i * 3 + 1, none⟩ = _ := x1
        have x2' : (w.drewN m).cell? ⟨ga, oa + i * 3 + 2, none⟩ = _ := x2
        have y0' : (w.drewN m).cell? ⟨gb, ob + i * 3, none⟩ = _ := y0
        have y1' : (w.drewN m).cell? ⟨gb, ob + i * 3 + 1, none⟩ = _ := y1
        have y2' : (w.drewN m).cell? ⟨gb, ob + i * 3 + 2, none⟩ = _ := y2
        obtain ⟨W, hW⟩ : ∃ W, w.drewN m = W := ⟨_, rfl⟩
        rw [hW] at x0' x1' x2' y0' y1' y2'
        have HW := Lib.hid hW
        have HD := Lib.hid hd2
        clear hd hd2 ec fc hx hy x0 x1 x2 y0 y1 y2
        rw [hW]
        clear hW
        obtain ⟨S1, hS1⟩ : ∃ S : ByteArray, (⟨s1.toArray⟩ : ByteArray) = S := ⟨_, rfl⟩
        obtain ⟨S2, hS2⟩ : ∃ S : ByteArray, (⟨s2.toArray⟩ : ByteArray) = S := ⟨_, rfl⟩
        have l1 : s1 = S1.data.toList := by rw [← hS1]
        have l2 : s2 = S2.data.toList := by rw [← hS2]
        rw [hS1] at x2'
        rw [hS2] at y2'
        subst l1 l2
        obtain ⟨q, hq⟩ : ∃ b, eqL n1 i1 S1 n2 i2 S2 = b := ⟨_, rfl⟩
        have hq2 := eqL_iff n1 i1 S1 n2 i2 S2
        rw [hq] at hq2
        have hfin : q = false → R = false := by
          intro h
          rw [← HD.out]
          refine decide_eq_false ?_
          rintro ⟨hh, _⟩
          rw [decide_eq_true hh, h] at hq2
          cases hq2
        have hgo : q = true → decide (la.drop (i + 1) = lb.drop (i + 1)) = R := by
          intro h
          have hh : (n1 = n2 ∧ i1 = i2) ∧ S1.data.toList = S2.data.toList := of_decide_eq_true (hq2.symm.trans h)
          rw [← HD.out]
          exact decide_eq_decide.2 ⟨fun e => ⟨hh, e⟩, fun e => e.2⟩
        have HF := Lib.hid hfin
        have HGO := Lib.hid hgo
        clear hfin hgo hq2 HD hS1 hS2
        go_upto_region 6 with (fail)
        go_quiet (fail)
        cases q with
        | false =>
          obtain rfl := HF.out rfl
          go_wp2_with fail
          go_ret
          exact ⟨rfl, m + nq, by rw [← HW.out, World.drewN_drewN]⟩
        | true =>
          have hg := HGO.out rfl
          go_wp2_with fail
          go_roundw
          case rel => exact ⟨i + 1, m + nq, by simp, by rw [← HW.out, World.drewN_drewN], by omega, hg⟩
          case measure => simp [Lib.intOf]; omega
      · have h1 : ¬ (i : Int) < (na : Int) := by omega
        have e1 : la.drop i = [] := List.drop_eq_nil_of_le (by rw [HNA.out]; omega)
        have e2 : lb.drop i = [] := List.drop_eq_nil_of_le (by rw [HNB.out]; omega)
        rw [e1, e2] at hd
        obtain rfl : R = true := by rw [← hd]; rfl
        go_wp2_with fail
        go_ret
        exact ⟨rfl, m, rfl⟩
  · obtain rfl : R = false := by
      rw [← HR.out]
      refine decide_eq_false ?_
      rintro rfl
      apply hl
      rw [← HNA.out, ← HNB.out]
    go_enter Tryd.func16, Tryd.ntmps16
    go_wp2_with fail
    go_ret
    exact ⟨rfl, 0, rfl⟩
end Go.Proofs.YtofikmdfiimbbaaDoor
