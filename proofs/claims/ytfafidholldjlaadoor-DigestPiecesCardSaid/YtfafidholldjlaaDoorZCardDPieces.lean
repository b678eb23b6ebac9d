/- Proved: DigestPieces answers true for every input, never panics, and its input reads as it did; the one condition: the listed variables hold what the program's own text lays in them. -/
import Derived.Test.YtfafidholldjlaaDoorZG
import Derived.Test.YtfafidholldjlaaDoorZL
import Derived.Test.YtfafidholldjlaaDoorZC
import Derived.Test.YtfafidholldjlaaDoorZK
import Derived.ReadAgain
import Derived.ChangeSlices
import Derived.Deep.SlicePairs
/- No message with its end is the end of another one with its; no program in sight. -/
set_option linter.unusedVariables false
set_option linter.unusedSimpArgs false
namespace Sha
theorem endOf_split (n : Nat) : ∃ l, endOf n = l ++ [UInt8.ofNat (8 * n / 256), UInt8.ofNat (8 * n)] := by
  refine ⟨128 :: (List.replicate (zeros n) 0 ++ [0, 0, 0, 0, UInt8.ofNat (8 * n / 16777216), UInt8.ofNat (8 * n / 65536)]), ?_⟩
  unfold endOf
  simp
theorem drop_last {α : Type} (a b : List α) (c d : List α) (k : Nat) (h : (a ++ c).drop k = b ++ d) (hl : c.length = d.length) (hk : k ≤ a.length) : c = d := by
  rw [List.drop_append_of_le_length hk] at h
  exact (List.append_inj' h hl).2
theorem ends_same (m q : List UInt8) (hm : m.length ≤ 300) (hq : q.length ≤ 300) (hle : (m ++ endOf m.length).length ≤ (q ++ endOf q.length).length)
    (h : (q ++ endOf q.length).drop ((q ++ endOf q.length).length - (m ++ endOf m.length).length) = m ++ endOf m.length) : m = q := by
  have hlen : m.length = q.length := by
    obtain ⟨l1, e1⟩ := endOf_split m.length
    obtain ⟨l2, e2⟩ := endOf_split q.length
    have hz1 := endOf_length m.length
    have hz2 := endOf_length q.length
    have hk : (q ++ endOf q.length).length - (m ++ endOf m.length).length ≤ (q ++ l2).length := by
      have := congrArg List.length e2
      simp only [List.length_append, List.length_cons, List.length_nil] at this ⊢
      omega
    have h' : ((q ++ l2) ++ [UInt8.ofNat (8 * q.length / 256), UInt8.ofNat (8 * q.length)]).drop ((q ++ endOf q.length).length - (m ++ endOf m.length).length) = (m ++ l1) ++ [UInt8.ofNat (8 * m.length / 256), UInt8.ofNat (8 * m.length)] := by
      rw [List.append_assoc, ← e2, List.append_assoc, ← e1]
      exact h
    have h2 := drop_last _ _ _ _ _ h' rfl hk
    simp only [List.cons.injEq, and_true] at h2
    have a1 := congrArg UInt8.toNat h2.1
    have a2 := congrArg UInt8.toNat h2.2
    simp only [UInt8.toNat_ofNat'] at a1 a2
    omega
  have he : endOf m.length = endOf q.length := by rw [hlen]
  have hs : (q ++ endOf q.length).length - (m ++ endOf m.length).length = 0 := by
    rw [List.length_append, List.length_append, he, hlen]; omega
  rw [hs, List.drop_zero] at h
  exact (List.append_inj h (by rw [hlen])).1.symm
end Sha
/- The law DigestEnds: what a call of it answers, for every two texts. -/
set_option linter.unusedVariables false
set_option linter.unusedSimpArgs false
namespace Go.Proofs.YtfafidholldjlaaDoor
open Go.RowKit
theorem tail_list (y : ByteArray) (k : Nat) : (y.extract k y.size).data.toList = y.data.toList.drop k := by
  rw [ByteArray.data_extract, Array.toList_extract, List.extract_eq_take_drop, List.take_of_length_le]
  rw [List.length_drop, Array.length_toList]
  exact Nat.le_refl _
set_option maxRecDepth 100000 in
set_option maxHeartbeats 1000000 in
theorem ends_diff (a b : ByteArray) (ha : a.size ≤ maxLen) (hb : b.size ≤ maxLen) (hyp : front a 300 ≠ front b 300) {B : Nat} {aw ab : Addr} {w : World} (hG : DGlob B aw ab w) :
    Calls Tryd.prog 12 #[.string a, .string b] w fun e w' => e = .returned (.bool true) ∧ Below w.heap.size w w' := by
  have HG := Lib.hid hG
  have HA := Lib.hid ha
  have HB' := Lib.hid hb
  have HY := Lib.hid hyp
  have l0 := front_300 a
  have l1 := front_300 b
  clear hG ha hb hyp
  go_enter Tryd.func12, Tryd.ntmps12
  go_wp2_with fail
  refine (dshown_any HG.out).mono ?_
  rintro e w1 ⟨rfl, hb1⟩
  have HB1 := Lib.hid hb1
  clear hb1
  go_wp2_with fail
  refine (dcut_any a HA.out _).mono ?_
  rintro e w' ⟨rfl, rfl⟩
  obtain ⟨fa, hfa⟩ : ∃ x, front a 300 = x := ⟨_, rfl⟩
  rw [hfa] at l0 HY ⊢
  clear hfa HA
  go_wp2_with fail
  refine (dcut_any b HB'.out _).mono ?_
  rintro e w' ⟨rfl, rfl⟩
  obtain ⟨fb, hfb⟩ : ∃ x, front b 300 = x := ⟨_, rfl⟩
  rw [hfb] at l1 HY ⊢
  clear hfb HB'
  go_wp2_with fail
  refine (endOk_any fa.size (by omega) _).mono ?_
  rintro e w2 ⟨rfl, hb2⟩
  have HB2 := Lib.hid (HB1.out.trans (hb2.mono HB1.out.size))
  obtain ⟨ea, hea⟩ : ∃ x, (⟨(Sha.endOf fa.size).toArray⟩ : ByteArray) = x := ⟨_, rfl⟩
  rw [hea]
  have HEA := Lib.hid hea
  clear hb2 hea
  go_wp2_with fail
  refine (endOk_any fb.size (by omega) _).mono ?_
  rintro e w3 ⟨rfl, hb3⟩
  have HB3 := Lib.hid (HB2.out.trans (hb3.mono HB2.out.size))
  obtain ⟨eb, heb⟩ : ∃ x, (⟨(Sha.endOf fb.size).toArray⟩ : ByteArray) = x := ⟨_, rfl⟩
  rw [heb]
  have HEB := Lib.hid heb
  clear hb3 heb
  have sa : ea.size = 9 + Sha.zeros fa.size := by rw [← HEA.out]; show (Sha.endOf fa.size).toArray.size = _; rw [List.size_toArray, Sha.endOf_length]
  have sb : eb.size = 9 + Sha.zeros fb.size := by rw [← HEB.out]; show (Sha.endOf fb.size).toArray.size = _; rw [List.size_toArray, Sha.endOf_length]
  have za : Sha.zeros fa.size ≤ 63 := by unfold Sha.zeros; omega
  have zb : Sha.zeros fb.size ≤ 63 := by unfold Sha.zeros; omega
  have wa : (fa.size + ea.size) % 64 = 0 := by rw [sa]; unfold Sha.zeros; omega
  have la : (fa.size : Int) ≤ 8388608 := by omega
  have lb : (fb.size : Int) ≤ 8388608 := by omega
  have lea : (ea.size : Int) ≤ 8388608 := by omega
  have leb : (eb.size : Int) ≤ 8388608 := by omega
  have ua : fa.size + ea.size ≤ 9223372036854775807 := by omega
  have ub : fb.size + eb.size ≤ 9223372036854775807 := by omega
  have e9 : (9 : Int) ≤ (ea.size : Int) := by omega
  have e72 : (ea.size : Int) ≤ 72 := by omega
  have e73 : eb.size ≤ 72 := by omega
  have xl : (fa ++ ea).data.toList = fa.data.toList ++ Sha.endOf fa.data.toList.length := by rw [append_list, ← HEA.out]; rfl
  have yl : (fb ++ eb).data.toList = fb.data.toList ++ Sha.endOf fb.data.toList.length := by rw [append_list, ← HEB.out]; rfl
  have xs : (fa ++ ea).size = fa.size + ea.size := ByteArray.size_append
  have ys : (fb ++ eb).size = fb.size + eb.size := ByteArray.size_append
  have XL := Lib.hid xl
  have YL := Lib.hid yl
  have WA := Lib.hid wa
  clear sa sb za zb xl yl wa
  go_upto_region 8 with (fail)
  obtain ⟨x, hx⟩ : ∃ x, fa ++ ea = x := ⟨_, rfl⟩
  obtain ⟨y, hy⟩ : ∃ y, fb ++ eb = y := ⟨_, rfl⟩
  rw [hx] at xs XL ⊢
  rw [hy] at ys YL ⊢
  have xm : ((x.size : Int) % 64) = 0 := by have := WA.out; omega
  have x6 : (x.size : Int) ≤ 1000 := by omega
  have y6 : (y.size : Int) ≤ 1000 := by omega
  clear hx hy xs ys
  have hne : (fa.toList == fb.toList) = false := by
    rw [beq_eq_false_iff_ne, ByteArray.toList_eq, ByteArray.toList_eq]
    exact fun e => HY.out (ByteArray.ext (Array.toList_inj.1 e))
  by_cases hle : (x.size : Int) ≤ (y.size : Int)
  · have hk0 : (0 : Int) ≤ (y.size : Int) - (x.size : Int) := by omega
    have hk1 : (y.size : Int) - (x.size : Int) ≤ (y.size : Int) := by omega
    have hx : ((y.extract (y.size - x.size) y.size).toList == x.toList) = false := by
      rw [beq_eq_false_iff_ne, ByteArray.toList_eq, ByteArray.toList_eq, tail_list]
      intro e
      refine HY.out (ByteArray.ext (Array.toList_inj.1 (Sha.ends_same fa.data.toList fb.data.toList l0 l1 ?_ ?_)))
      · rw [← XL.out, ← YL.out]
        have : x.data.size ≤ y.data.size := by have h : x.size ≤ y.size := by omega
                                               exact h
        simpa using this
      · rw [← XL.out, ← YL.out]
        exact e
    go_wp2_with fail
    go_ret
    exact ⟨rfl, HB3.out⟩
  · have hgt : (y.size : Int) < (x.size : Int) := by omega
    go_wp2_with fail
    go_ret
    exact ⟨rfl, HB3.out⟩
set_option maxRecDepth 100000 in
set_option maxHeartbeats 1000000 in
theorem ends_same_law (a b : ByteArray) (ha : a.size ≤ maxLen) (hb : b.size ≤ maxLen) (hyp : front a 300 = front b 300) {B : Nat} {aw ab : Addr} {w : World} (hG : DGlob B aw ab w) :
    Calls Tryd.prog 12 #[.string a, .string b] w fun e w' => e = .returned (.bool true) ∧ Below w.heap.size w w' := by
  have HG := Lib.hid hG
  have HA := Lib.hid ha
  have HB' := Lib.hid hb
  have HY := Lib.hid hyp
  have l0 := front_300 a
  have l1 := front_300 b
  clear hG ha hb hyp
  go_enter Tryd.func12, Tryd.ntmps12
  go_wp2_with fail
  refine (dshown_any HG.out).mono ?_
  rintro e w1 ⟨rfl, hb1⟩
  have HB1 := Lib.hid hb1
  clear hb1
  go_wp2_with fail
  refine (dcut_any a HA.out _).mono ?_
  rintro e w' ⟨rfl, rfl⟩
  obtain ⟨fa, hfa⟩ : ∃ x, front a 300 = x := ⟨_, rfl⟩
  rw [hfa] at l0 HY ⊢
  clear hfa HA
  go_wp2_with fail
  refine (dcut_any b HB'.out _).mono ?_
  rintro e w' ⟨rfl, rfl⟩
  obtain ⟨fb, hfb⟩ : ∃ x, front b 300 = x := ⟨_, rfl⟩
  rw [hfb] at l1 HY ⊢
  clear hfb HB'
  go_wp2_with fail
  refine (endOk_any fa.size (by omega) _).mono ?_
  rintro e w2 ⟨rfl, hb2⟩
  have HB2 := Lib.hid (HB1.out.trans (hb2.mono HB1.out.size))
  obtain ⟨ea, hea⟩ : ∃ x, (⟨(Sha.endOf fa.size).toArray⟩ : ByteArray) = x := ⟨_, rfl⟩
  rw [hea]
  have HEA := Lib.hid hea
  clear hb2 hea
  go_wp2_with fail
  refine (endOk_any fb.size (by omega) _).mono ?_
  rintro e w3 ⟨rfl, hb3⟩
  have HB3 := Lib.hid (HB2.out.trans (hb3.mono HB2.out.size))
  obtain ⟨eb, heb⟩ : ∃ x, (⟨(Sha.endOf fb.size).toArray⟩ : ByteArray) = x := ⟨_, rfl⟩
  rw [heb]
  have HEB := Lib.hid heb
  clear hb3 heb
  have sa : ea.size = 9 + Sha.zeros fa.size := by rw [← HEA.out]; show (Sha.endOf fa.size).toArray.size = _; rw [List.size_toArray, Sha.endOf_length]
  have sb : eb.size = 9 + Sha.zeros fb.size := by rw [← HEB.out]; show (Sha.endOf fb.size).toArray.size = _; rw [List.size_toArray, Sha.endOf_length]
  have za : Sha.zeros fa.size ≤ 63 := by unfold Sha.zeros; omega
  have zb : Sha.zeros fb.size ≤ 63 := by unfold Sha.zeros; omega
  have wa : (fa.size + ea.size) % 64 = 0 := by rw [sa]; unfold Sha.zeros; omega
  have la : (fa.size : Int) ≤ 8388608 := by omega
  have lb : (fb.size : Int) ≤ 8388608 := by omega
  have lea : (ea.size : Int) ≤ 8388608 := by omega
  have leb : (eb.size : Int) ≤ 8388608 := by omega
  have ua : fa.size + ea.size ≤ 9223372036854775807 := by omega
  have ub : fb.size + eb.size ≤ 9223372036854775807 := by omega
  have e9 : (9 : Int) ≤ (ea.size : Int) := by omega
  have e72 : (ea.size : Int) ≤ 72 := by omega
  have e73 : eb.size ≤ 72 := by omega
  have xl : (fa ++ ea).data.toList = fa.data.toList ++ Sha.endOf fa.data.toList.length := by rw [append_list, ← HEA.out]; rfl
  have yl : (fb ++ eb).data.toList = fb.data.toList ++ Sha.endOf fb.data.toList.length := by rw [append_list, ← HEB.out]; rfl
  have xs : (fa ++ ea).size = fa.size + ea.size := ByteArray.size_append
  have ys : (fb ++ eb).size = fb.size + eb.size := ByteArray.size_append
  have XL := Lib.hid xl
  have YL := Lib.hid yl
  have WA := Lib.hid wa
  clear sa sb za zb xl yl wa
  go_upto_region 8 with (fail)
  obtain ⟨x, hx⟩ : ∃ x, fa ++ ea = x := ⟨_, rfl⟩
  obtain ⟨y, hy⟩ : ∃ y, fb ++ eb = y := ⟨_, rfl⟩
  rw [hx] at xs XL ⊢
  rw [hy] at ys YL ⊢
  have xm : ((x.size : Int) % 64) = 0 := by have := WA.out; omega
  have x6 : (x.size : Int) ≤ 1000 := by omega
  have y6 : (y.size : Int) ≤ 1000 := by omega
  clear hx hy xs ys
  obtain rfl : fa = fb := HY.out
  obtain rfl : y = x := by
    apply ByteArray.ext
    apply Array.toList_inj.1
    rw [XL.out, YL.out]
  have hex : y.extract 0 y.size = y := by simp
  have hk0 : (y.size : Int) - (y.size : Int) = 0 := by omega
  go_wp2_with fail
  go_ret
  exact ⟨rfl, HB3.out⟩
/-- EVERY TWO TEXTS. -/
theorem ends_law (a b : ByteArray) (ha : a.size ≤ maxLen) (hb : b.size ≤ maxLen) {B : Nat} {aw ab : Addr} {w : World} (hG : DGlob B aw ab w) :
    Calls Tryd.prog 12 #[.string a, .string b] w fun e w' => e = .returned (.bool true) ∧ Below w.heap.size w w' := by
  by_cases h : front a 300 = front b 300
  · exact ends_same_law a b ha hb h hG
  · exact ends_diff a b ha hb h hG
end Go.Proofs.YtfafidholldjlaaDoor
/- The law DigestPieces: what a call of it answers, for every text and list of numbers. -/
set_option linter.unusedVariables false
set_option linter.unusedSimpArgs false
namespace Go.Proofs.YtfafidholldjlaaDoor
open Go.RowKit
set_option maxRecDepth 100000 in
set_option maxHeartbeats 1000000 in
theorem pieces_law (s : ByteArray) (hs : s.size ≤ maxLen) (a : Option Addr) (len cap : Nat) (z : Nat → Int) {B : Nat} {aw ab : Addr} {w : World} (hG : DGlob B aw ab w) (hlen : len ≤ maxLen)
    (hz : ∀ i, i < len → ∃ b off, a = some ⟨b, off, none⟩ ∧ b < w.heap.size ∧ w.cell? ⟨b, off + i, none⟩ = some (.int .i64 (z i)) ∧ -9223372036854775808 ≤ z i ∧ z i ≤ 9223372036854775807) :
    Calls Tryd.prog 10 #[.string s, .slice a len cap] w fun e w' => e = .returned (.bool true) ∧ Below w.heap.size w w' := by
  have HG := Lib.hid hG
  have HS := Lib.hid hs
  have HZ := Lib.hid hz
  have l0 := front_300 s
  clear hG hs hz
  go_enter Tryd.func10, Tryd.ntmps10
  go_wp2_with fail
  refine (dshown_any HG.out).mono ?_
  rintro e w1 ⟨rfl, hb1⟩
  have HB1 := Lib.hid hb1
  clear hb1
  go_wp2_with fail
  refine (dcut_any s HS.out _).mono ?_
  rintro e w' ⟨rfl, rfl⟩
  obtain ⟨fs, hfs⟩ : ∃ x, front s 300 = x := ⟨_, rfl⟩
  rw [hfs] at l0 ⊢
  clear hfs HS
  go_wp2_with fail
  refine (new_any _).mono ?_
  rintro e w2 ⟨h, rfl, hh, hr, hb2⟩
  have hbh : w.heap.size ≤ h := Nat.le_trans HB1.out.size hh
  have HN := Lib.hid (hasher_new hr)
  have HB2 := Lib.hid (HB1.out.trans (hb2.mono HB1.out.size))
  clear hr hb2
  go_wp2_with fail
  go_loopw [7, 8] (fun v i W => ∃ t at_ : Nat, t ≤ 20 ∧ i = .int .i64 t ∧ v = .int .i64 at_ ∧ at_ ≤ fs.size ∧ HasherAt W h (fs.data.toList.take at_) ∧ Below w.heap.size w W) (fun _ i _ => 20 - (intOf i).toNat)
  case atStart => exact ⟨0, 0, by omega, rfl, rfl, by omega, HN.out, HB2.out⟩
  case round =>
    obtain ⟨t, at_, ht, rfl, rfl, hat, hm, hbw⟩ := hrel
    have HM := Lib.hid hm
    have HBW := Lib.hid hbw
    clear hm hbw
    have lt0 : (fs.size : Int) ≤ 300 := by omega
    have la0 : (at_ : Int) ≤ (fs.size : Int) := by omega
    by_cases hlt : t < len ∧ t < 20
    · obtain ⟨b, off, rfl, hbl, hcz, z0, z1⟩ := HZ.out t hlt.1
      have hc := (HBW.out.cell (p := ⟨b, off + t, none⟩) hbl).trans hcz
      have i0 : (t : Int) < (len : Int) := by omega
      have i1 : (t : Int) < 20 := by omega
      generalize z t = zt at hc z0 z1
      clear hcz HZ
      go_upto_region 8 with (fail)
      go_cut [9] from 27 to 36 (fun s9 wx => ∃ n : Nat, s9 = .int .i64 n ∧ at_ + n ≤ fs.size ∧ wx = wr)
      case first =>
        by_cases g1 : zt < 0
        · have g2 : (0 : Int) ≤ (fs.size : Int) - (at_ : Int) := by omega
          go_wp2_with fail
          go_meet
          exact ⟨0, rfl, by omega, rfl⟩
        · by_cases g2 : zt ≤ (fs.size : Int) - (at_ : Int)
          · obtain ⟨n, rfl⟩ : ∃ n : Nat, zt = n := ⟨zt.toNat, by omega⟩
            go_wp2_with fail
            go_meet
            exact ⟨n, rfl, by omega, rfl⟩
          · go_wp2_with fail
            go_meet
            exact ⟨fs.size - at_, by go_num, by omega, rfl⟩
      case rest =>
        obtain ⟨n, rfl, hn, rfl⟩ := hcut
        clear hc
        obtain ⟨q, hq⟩ : ∃ q, fs.extract at_ (at_ + n) = q := ⟨_, rfl⟩
        have hql : q.data.toList = (fs.data.toList.drop at_).take n := by
          rw [← hq, ByteArray.data_extract, Array.toList_extract, List.extract_eq_take_drop]
          congr 1
          omega
        have hqs : q.size ≤ 300 := by rw [← hq, ByteArray.size_extract]; omega
        have htk : fs.data.toList.take at_ ++ q.data.toList = fs.data.toList.take (at_ + n) := by rw [hql, List.take_add]
        have hsl : ∀ W, (Instr.slice 9 (.string fs) (some (.int .i64 (at_ : Int))) (some (.int .i64 ((at_ : Int) + (n : Int)))) none).run Tryd.prog W = .ok (.string q) W := by
          intro W
          have h := run_slice_string (P := Tryd.prog) W 9 fs .i64 .i64 (at_ : Int) ((at_ : Int) + (n : Int)) Tryd.underlying9 (by omega) (by omega) (by omega)
          have e1 : ((at_ : Int)).toNat = at_ := by omega
          have e2 : ((at_ : Int) + (n : Int)).toNat = at_ + n := by omega
          rw [e1, e2, hq] at h
          exact h
        have n0 : (n : Int) ≤ 300 := by omega
        have n1 : (0 : Int) ≤ (n : Int) := by omega
        have hl1 : (fs.data.toList.take at_).length ≤ 300 := by rw [List.length_take]; omega
        have HTK := Lib.hid htk
        clear hql htk
        go_wp2_with fail
        refine (write_ok (HG.out.glob.below (HBW.out.mono HG.out.glob.size)) h (Nat.le_trans HG.out.glob.size hbh) _ q HM.out (by omega)).mono ?_
        rintro e w4 ⟨rfl, hm4, hf4⟩
        rw [HTK.out] at hm4
        have HM4 := Lib.hid hm4
        have HB4 := Lib.hid (HBW.out.trans (hf4.to_below HBW.out.size (by omega)))
        clear hm4 hf4 HM HBW hsl
        go_wp2_with fail
        refine (hsum_any (HG.out.glob.below (HB4.out.mono HG.out.glob.size)) h (Nat.le_trans HG.out.glob.size hbh) _ HM4.out (by rw [List.length_take]; omega)).mono ?_
        rintro e w5 ⟨rfl, hm5, hf5⟩
        have hs32 := shaBytes_size (fs.data.toList.take (at_ + n))
        generalize shaBytes (fs.data.toList.take (at_ + n)) = bs at hs32 ⊢
        have HM5 := Lib.hid hm5
        have HB5 := Lib.hid (HB4.out.trans (hf5.to_below HB4.out.size (by omega)))
        clear hm5 hf5
        go_wp2_with fail
        go_roundw
        case rel => exact ⟨t + 1, at_ + n, by omega, by go_num, by go_num, hn, HM5.out, HB5.out⟩
        case measure => simp [intOf]; omega
    · have hq : ∃ q, fs.extract at_ fs.size = q := ⟨_, rfl⟩
      obtain ⟨q, hq⟩ := hq
      have hql : q.data.toList = fs.data.toList.drop at_ := by rw [← hq, tail_list]
      have hqs : q.size ≤ 300 := by rw [← hq, ByteArray.size_extract]; omega
      have htk : fs.data.toList.take at_ ++ q.data.toList = fs.data.toList := by rw [hql, List.take_append_drop]
      have hsl : ∀ W, (Instr.slice 9 (.string fs) (some (.int .i64 (at_ : Int))) none none).run Tryd.prog W = .ok (.string q) W := by
        intro W
        have h := run_slice_string_l (P := Tryd.prog) W 9 fs Tryd.underlying9 .i64 (at_ : Int) (by omega) (by omega)
        have e1 : ((at_ : Int)).toNat = at_ := by omega
        rw [e1, hq] at h
        exact h
      have hl1 : (fs.data.toList.take at_).length ≤ 300 := by rw [List.length_take]; omega
      have HTK := Lib.hid htk
      clear hql htk
      obtain ⟨sx, hsx⟩ : ∃ x, shaBytes fs.data.toList = x := ⟨_, rfl⟩
      have HSX := Lib.hid hsx
      clear hsx
      by_cases hl : t < len
      case' pos =>
        have i0 : (t : Int) < (len : Int) := by omega
        have i1 : ¬ ((t : Int) < 20) := by omega
        go_wp2_with fail
      case' neg =>
        have i0 : ¬ ((t : Int) < (len : Int)) := by omega
        go_wp2_with fail
      all_goals
        refine (write_ok (HG.out.glob.below (HBW.out.mono HG.out.glob.size)) h (Nat.le_trans HG.out.glob.size hbh) _ q HM.out (by omega)).mono ?_
        rintro e w4 ⟨rfl, hm4, hf4⟩
        rw [HTK.out] at hm4
        have HM4 := Lib.hid hm4
        have HB4 := Lib.hid (HBW.out.trans (hf4.to_below HBW.out.size (by omega)))
        clear hm4 hf4 HM HBW hsl
        go_wp2_with fail
        refine (dsum_ok (HG.out.glob.below (HB4.out.mono HG.out.glob.size)) fs (by omega)).mono ?_
        rintro e w5 ⟨rfl, hb5⟩
        rw [HSX.out]
        have HM5 := Lib.hid (HM4.out.keep hb5)
        have HB5 := Lib.hid (HB4.out.trans (hb5.mono HB4.out.size))
        clear hb5 HM4
        go_wp2_with fail
        refine (hsum_any (HG.out.glob.below (HB5.out.mono HG.out.glob.size)) h (Nat.le_trans HG.out.glob.size hbh) _ HM5.out (by show fs.size ≤ 100000; omega)).mono ?_
        rintro e w6 ⟨rfl, hm6, hf6⟩
        rw [HSX.out]
        have HM6 := Lib.hid hm6
        have HB6 := Lib.hid (HB5.out.trans (hf6.to_below HB5.out.size (by omega)))
        clear hm6 hf6 HM5
        go_wp2_with fail
        obtain ⟨v7, r7, s7⟩ := HM6.out
        have R7 := Lib.hid r7
        clear r7 s7 HM6
        refine (len_any h v7 _ _ _ R7.out).mono ?_
        rintro e w7 ⟨rfl, rfl⟩
        rw [show ((fs.data.toList.length : Nat) : Int) = (fs.size : Int) from rfl]
        go_wp2_with fail
        go_ret
        exact ⟨rfl, HB6.out⟩
end Go.Proofs.YtfafidholldjlaaDoor
/- What a call leaves that has changed nothing old, whatever memory its arguments hold. -/
set_option linter.unusedVariables false
set_option linter.unusedSimpArgs false
namespace Go.Proofs.YtfafidholldjlaaDoor
open Go.ChangeShapes Go.WideShapes Go.ChangeAt Go.RowKit
theorem trodAll_carry {H : Type} {enc : TypeId × Value → H} {P : Program} {w w' : World} {base : Nat} {sp : Nat → Bool} {held : Bool} : ∀ {ts : List TypeId} {vs : List Value} {ds : List (DataW H)} {ps : List MemPlace},
    DataW.TrodAll enc P w base sp held ts vs ds ps → (∀ p ∈ ps, w.sameAt w' p) → DataW.TrodAll enc P w' base sp held ts vs ds ps
  | [], [], [], _, h, _ => h
  | _ :: _, _ :: _, _ :: _, _, ⟨p, q, ⟨n, h1⟩, h2, e⟩, hs =>
    ⟨p, q, ⟨n, DataW.trod_carry n _ _ _ h1 (fun x hx => hs x (by rw [e]; exact List.mem_append_left _ hx))⟩, trodAll_carry h2 (fun x hx => hs x (by rw [e]; exact List.mem_append_right _ hx)), e⟩
theorem prog_kids : Kids Tryd.prog (· < Tryd.prog.types.size) := kids_rows (by kernel_rfl) (by kernel_rfl)
theorem prog_full : ∀ t e, t < Tryd.prog.types.size → Tryd.prog.underlying t = some (.slice e) → 0 < Tryd.prog.cellsOf e := slices_full_of Tryd.prog (by kernel_rfl)
theorem post_below_any {H : Type} {enc : TypeId × Value → H} {P : Program} (hK : Kids P (· < P.types.size)) (hfull : ∀ t e, t < P.types.size → P.underlying t = some (.slice e) → 0 < P.cellsOf e) {f : Func} {s : ChangeSpec} {apart fresh handsOn again : Bool} {W W' : World} {args : Array Value} {v : Value} {ds : List (DataW H)} {before : List MemPlace}
    (hts : ∀ t ∈ f.params.toList, t < P.types.size) (hsv : s.vars = [])
    (hW : DataW.Whole enc P f.params.toList s.vars apart W args.toList ds [] before)
    (hres : ∀ (b : Nat) (sp : Nat → Bool) (hd : Bool), DataW.TrodAll enc P W' b sp hd f.resultTypes.toList (v.resultList f.resultTypes.size) (s.fn H (ds ++ [])).results [])
    (hargs : (s.fn H (ds ++ [])).args = ds) (hvars : (s.fn H (ds ++ [])).vars = [])
    (hb : Below W.heap.size W W')
    (hok : ∀ (j : Nat) (t : TypeId) (r : Value), f.resultTypes[j]? = some t → (v.resultList f.resultTypes.size)[j]? = some r → Value.okWide P W' .any 0 t r) :
    s.post enc P f apart fresh handsOn again W args v W' := by
  have hlt := hW.lt
  have hW0 := hW
  obtain ⟨p, q, hA, hV, hpq, hz, hn⟩ := hW
  have hV' := hV
  rw [hsv] at hV'
  have hq : q = [] := hV'
  subst hq
  rw [List.append_nil] at hpq
  subst hpq
  have hA' : DataW.TrodAll enc P W' 0 (fun _ => true) true f.params.toList args.toList ds before := trodAll_carry hA (fun x hx => hb.same (hlt x hx))
  have hA2 : ∀ sp : Nat → Bool, (∀ x ∈ before, sp x.block = true) → DataW.TrodAll enc P W' 0 sp true f.params.toList args.toList (s.fn H (ds ++ [])).args before := by
    intro sp hsp
    rw [hargs]
    exact DataW.TrodAll.respare hK hfull hts hA' hsp
  have hV2 : ∀ sp : Nat → Bool, DataW.TrodVars enc P W' sp s.vars (s.fn H (ds ++ [])).vars [] := by
    intro sp
    rw [hvars, hsv]
    show ([] : List MemPlace) = []
    rfl
  have hold : ∀ x ∈ before, (fun b => decide (b < W.heap.size)) x.block = true := fun x hx => by simpa using hlt x hx
  refine ⟨ds, [], before, [], before, [], hW0, hres _ _ _, hA2 _ hold, hV2 _, World.keptBut_mono (fun x hx => ⟨hx, .inr (.inl hx)⟩) (hb.frame (· ∈ before)), fun _ => ?_⟩
  refine ⟨hok, _, _, ([] ++ before) ++ [], ⟨[] ++ before, [], trodAll_append (hA2 _ (fun _ _ => rfl)) (hres _ _ _), hV2 _, rfl, ?_, ?_⟩, ?_⟩
  · intro b off hp
    have hp' : MemPlace.cell b off ∈ before := by simpa using hp
    rw [World.frozen?_of_block (w := W) (hb.block b (hlt _ hp'))]
    exact hz b off hp'
  · intro ha
    simpa using hn ha
  · intro x hx _
    simpa using hx
end Go.Proofs.YtfafidholldjlaaDoor
/- A list of numbers that came in, opened. -/
set_option linter.unusedVariables false
set_option linter.unusedSimpArgs false
namespace Go.Proofs.YtfafidholldjlaaDoor
open Go.ChangeShapes Go.WideShapes Go.ChangeAt Go.RowKit
theorem cell_lt {w : World} {a : Addr} {v : Value} (h : w.cell? a = some v) : a.block < w.heap.size := by
  by_cases hl : a.block < w.heap.size
  · exact hl
  · rw [World.cell?, Array.getElem?_eq_none (by omega)] at h
    cases h
theorem open_numbers {H : Type} {enc : TypeId × Value → H} {W : World} {base : Nat} {held : Bool} {fuel : Nat} {a : Option Addr} {len cap : Nat} {x : DataW H × List MemPlace}
    (hf : DataW.trod enc Tryd.prog W base (fun _ => true) held fuel 26 (Value.cells (.slice a len cap)).toList = some x) :
    ∃ z : Nat → Int, len ≤ maxLen ∧ ∀ i, i < len → ∃ b off, a = some ⟨b, off, none⟩ ∧ b < W.heap.size ∧ W.cell? ⟨b, off + i, none⟩ = some (.int .i64 (z i)) ∧ -9223372036854775808 ≤ z i ∧ z i ≤ 9223372036854775807 := by
  rcases open_ints Tryd.underlying26 Tryd.underlying3 cells3 hf with ⟨hcs, _⟩ | ⟨ad, len', cap', zs, hcs, _, hl, hm, hz, _, hcell, hwz⟩
  · simp [Value.cells] at hcs
    obtain ⟨rfl, rfl, rfl⟩ := hcs
    exact ⟨fun _ => 0, Nat.zero_le _, fun i hi => absurd hi (Nat.not_lt_zero i)⟩
  · simp [Value.cells] at hcs
    obtain ⟨rfl, rfl, rfl⟩ := hcs
    simp only [if_true] at hz
    refine ⟨fun i => zs.getD i 0, Nat.le_trans hl hm, fun i hi => ?_⟩
    obtain ⟨b, off, spot⟩ := ad
    have hc := hcell i (by omega)
    have hspot : spot = none := by simpa [Addr.add] using World.cell?_spot (hcell 0 (by omega))
    subst hspot
    rw [add_plain] at hc
    have hm' : zs.getD i 0 ∈ zs := by
      rw [List.getD_eq_getElem?_getD, List.getElem?_eq_getElem (by omega)]
      exact List.getElem_mem _
    have hb := bounds_i64 (hwz _ hm')
    exact ⟨b, off, rfl, cell_lt hc, hc, hb.1, hb.2⟩
end Go.Proofs.YtfafidholldjlaaDoor
namespace Go.Proofs.YtfafidholldjlaaDoor.digestPieces
open Go.ChangeShapes Go.WideShapes Go.ChangeAt Go.RowKit
set_option maxRecDepth 100000 in
set_option maxHeartbeats 1000000 in
theorem contract (H : Type) (enc : TypeId × Value → H) (W : World) (base : Nat) (args : Array Value) (ds gs : List (DataW H)) (before : List MemPlace)
    (hval : ∀ (j : Nat) t v, Tryd.f10.params[j]? = some t → args[j]? = some v → Value.okWide Tryd.prog W .any base t v)
    (hW : DataW.Whole enc Tryd.prog Tryd.f10.params.toList Rows.digestPiecesSpec.vars false W args.toList ds gs before) (hL : laidMetH Tryd.prog Rows.digestPiecesRow.laid W) (hS : W.ShapedOpen Tryd.prog) :
    Calls Tryd.prog 10 args W fun e W' => ∃ v, e = .returned v ∧ Rows.digestPiecesSpec.post enc Tryd.prog Tryd.f10 false true false false W args v W' := by
  have hW' := hW
  obtain ⟨p, q, hA0, hV, rfl, hfz, hnd⟩ := hW
  have hA : DataW.TrodAll enc Tryd.prog W 0 (fun _ => true) true Tryd.f10.params.toList args.toList ds p := hA0
  rw [Tryd.params10] at hA hval
  obtain ⟨v0, vs0, d0, ds0, p0, q0, hargs, rfl, rfl, h0, r0⟩ := trodAll_cons hA
  obtain ⟨v1, vs1, d1, ds1, p1, q1, rfl, rfl, rfl, h1, r1⟩ := trodAll_cons r0
  obtain ⟨rfl, rfl, rfl⟩ := trodAll_nil r1
  obtain rfl : args = #[v0, v1] := by cases args; simp_all
  obtain ⟨rfl, rfl⟩ := trodVars_none hV
  obtain ⟨b0, rfl, rfl, rfl, hw0⟩ := Go.ChangeMaps.open_string Tryd.underlying9 (hval 0 9 v0 rfl rfl) h0
  obtain ⟨a1, len1, cap1, rfl⟩ := okWide_slice Tryd.underlying26 (hval 1 26 v1 rfl rfl)
  obtain ⟨fuel1, hf1⟩ := h1
  obtain ⟨z1, hlen1, hz1⟩ := open_numbers hf1
  clear hA0
  simp only [List.append_nil] at hW'
  obtain ⟨aw, ab, hG⟩ := dglob_of hS hL
  have walk := pieces_law b0 hw0 a1 len1 cap1 z1 hG hlen1 hz1
  refine walk.mono fun e W' ⟨he, hb⟩ => ?_
  subst he
  exact ⟨_, rfl, post_below_any (P := Tryd.prog) prog_kids prog_full (by rw [Tryd.params10, typesN]; decide) rfl hW' (fun _ _ _ => trodAll_cons_mk (shut_bool Tryd.underlying4 _) trodAll_mk0) rfl rfl hb (ok_one (by kernel_rfl) rfl (okWide_bool_mk Tryd.underlying4 _))⟩
theorem reads (os : Os) {H : Type} (enc : TypeId × Value → H) : ∃ places, DataW.whole enc Tryd.prog ((laidWorldE os).forCall (fun _ _ => 0) ⟨#[], #[.string ⟨#[]⟩, .slice none 0 0], []⟩).memory Tryd.f10.params.toList Rows.digestPiecesSpec.vars false (#[.string ⟨#[]⟩, .slice none 0 0] : Array Value).toList 8 = some ([.lit (.string []), .nil], [], places) :=
  ⟨[], by kernel_rfl⟩
set_option maxRecDepth 100000 in
theorem lifted (os : Os) (started : os.Started) (H : Type) (enc : TypeId × Value → H) (F : Stop.Interp) :
    ReturnsInHanded {} Tryd.checked os 10 .any ((OpenSpec.ofChange Rows.digestPiecesSpec).preRow enc Tryd.prog Tryd.f10 Rows.digestPiecesRow.domain false Rows.digestPiecesRow.laid) (((OpenSpec.ofChange Rows.digestPiecesSpec).at F).post enc Tryd.prog Tryd.f10 false true false false) := by
  obtain ⟨places, hx⟩ := reads os enc
  refine returnsInHanded_of_row (C := Tryd.checked) (s := OpenSpec.ofChange Rows.digestPiecesSpec) own started (by kernel_rfl) Tryd.func10
    (witness_row_atRef (enc := enc) (C := Tryd.checked) false (laidWorldE os) #[.string ⟨#[]⟩, .slice none 0 0] rfl (by kernel_rfl) (by kernel_rfl) (by kernel_rfl)
      (OpenSpec.preRow_of_cond 8 hx (by kernel_rfl) (fun k hk => by cases hk) (by kernel_rfl) (laid_met_two os _))) ?_
  intro W base args ds gs before hval hW _ _ _ hL hS _
  exact contract H enc W base args ds gs before hval hW hL hS
theorem facts : joinedFacts Tryd.prog 10 Tryd.f10 Rows.digestPiecesSpec Rows.digestPiecesRow = true := by
  unfold joinedFacts
  rw [may, lifts, make_cut]
  kernel_rfl
set_option maxRecDepth 100000 in
theorem said : Rows.DigestPiecesSaid :=
  OpenClaim.holds_of_cond 10 Tryd.f10 rfl rfl rfl rfl rfl rfl rfl ⟨rfl, rfl, rfl, rfl, rfl⟩ rfl rfl rfl rfl rfl (by kernel_rfl) Tryd.func10 facts
    (of_decide_eq_true (by kernel_rfl)) (by unfold Func.isWrapper; first | (rw [if_pos (by decide +kernel)]; kernel_rfl) | (rw [if_neg (by decide +kernel)]; exact ⟨rfl, rfl⟩))
    (fun os started H enc _ F => by rw [OpenClaim.pre_eq_preRow]; exact lifted os started H enc F)
theorem plain (f : FuncId) (fn : Func) (hf : Tryd.pinned.checked.prog.funcNamed "sigillary/sigillarylaw02.DigestPieces" = some f) (hfn : Tryd.pinned.checked.prog.funcs[f]? = some fn) :
    true = Tryd.pinned.checked.prog.looks [] ∧ ∀ (j : Nat) t, fn.params[j]? = some t → Tryd.pinned.checked.prog.wantsStandIn t = false := by
  obtain rfl : f = 10 := Option.some.inj ((show Tryd.prog.funcNamed "sigillary/sigillarylaw02.DigestPieces" = some 10 by kernel_rfl).symm.trans hf) |>.symm
  obtain rfl : fn = Tryd.f10 := (Option.some.inj (Tryd.func10.symm.trans hfn)).symm
  refine ⟨by kernel_rfl, fun j t ht => ?_⟩
  rw [Tryd.params10] at ht
  have hm : t = 9 ∨ t = 26 := by
    have := Array.mem_of_getElem? ht
    simpa using this
  rcases hm with rfl | rfl
  · exact (show Tryd.prog.wantsStandIn 9 = false by kernel_rfl)
  · exact (show Tryd.prog.wantsStandIn 26 = false by kernel_rfl)
/-- ████ THE CARD ████ -/
theorem card : Rows.DigestPiecesCardSaid :=
  Claim7.holds_tied_plain_at .later [] _ _ _ _ said (fun _ h => by cases h) (by kernel_rfl) (fun _ h => by cases h) digestPieces_row_tie rfl ⟨rfl, rfl⟩ main_is rfl plain (by kernel_rfl)
end Go.Proofs.YtfafidholldjlaaDoor.digestPieces
