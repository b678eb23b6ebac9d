/- Proved: DigestEnds answers true for every input, never panics, and its input reads as it did; the one condition: the listed variables hold what the program's own text lays in them. -/
import Derived.Test.YtfafidholldjlaaDoorZG
import Derived.Test.YtfafidholldjlaaDoorZL
import Derived.Test.YtfafidholldjlaaDoorZK
import Derived.Test.YtfafidholldjlaaDoorZC
/- No message with its end is the end of another one with its; no program in sight. -/
set_option linter.unusedVariables false
set_option linter.unusedSimpArgs false
namespace Sha
theorem endOf_split (n : Nat) : ∃ l, endOf n = l ++ [UInt8.ofNat (8 * n / 256), UInt8.ofNat (8 * n)] := by
  refine ⟨128 :: (List.replicate (zeros n) 0 ++ [0, 0, 0, 0, UInt8.ofNat (8 * n / 16777216), UInt8.ofNat (8 * n / 65536)]), ?_⟩
  unfold endOf
  simp
theorem drop_last {α : Type} (a b : List α) (c d : List α) (k : Nat) (h : (a ++ c).drop k = b ++ d) (hl : c.length = d.length) (hk : k ≤ a.length) : c = d := by
  rw [List.drop_append_of_le_length hk] at h
  exact (List.append_inj' h hl).2
theorem ends_same (m q : List UInt8) (hm : m.length ≤ 300) (hq : q.length ≤ 300) (hle : (m ++ endOf m.length).length ≤ (q ++ endOf q.length).length)
    (h : (q ++ endOf q.length).drop ((q ++ endOf q.length).length - (m ++ endOf m.length).length) = m ++ endOf m.length) : m = q := by
  have hlen : m.length = q.length := by
    obtain ⟨l1, e1⟩ := endOf_split m.length
    obtain ⟨l2, e2⟩ := endOf_split q.length
    have hz1 := endOf_length m.length
    have hz2 := endOf_length q.length
    have hk : (q ++ endOf q.length).length - (m ++ endOf m.length).length ≤ (q ++ l2).length := by
      have := congrArg List.length e2
      simp only [List.length_append, List.length_cons, List.length_nil] at this ⊢
      omega
    have h' : ((q ++ l2) ++ [UInt8.ofNat (8 * q.length / 256), UInt8.ofNat (8 * q.length)]).drop ((q ++ endOf q.length).length - (m ++ endOf m.length).length) = (m ++ l1) ++ [UInt8.ofNat (8 * m.length / 256), UInt8.ofNat (8 * m.length)] := by
      rw [List.append_assoc, ← e2, List.append_assoc, ← e1]
      exact h
    have h2 := drop_last _ _ _ _ _ h' rfl hk
    simp only [List.cons.injEq, and_true] at h2
    have a1 := congrArg UInt8.toNat h2.1
    have a2 := congrArg UInt8.toNat h2.2
    simp only [UInt8.toNat_ofNat'] at a1 a2
    omega
  have he : endOf m.length = endOf q.length := by rw [hlen]
  have hs : (q ++ endOf q.length).length - (m ++ endOf m.length).length = 0 := by
    rw [List.length_append, List.length_append, he, hlen]; omega
  rw [hs, List.drop_zero] at h
  exact (List.append_inj h (by rw [hlen])).1.symm
end Sha
/- The law DigestEnds: what a call of it answers, for every two texts. -/
set_option linter.unusedVariables false
set_option linter.unusedSimpArgs false
namespace Go.Proofs.YtfafidholldjlaaDoor
open Go.RowKit
theorem tail_list (y : ByteArray) (k : Nat) : (y.extract k y.size).data.toList = y.data.toList.drop k := by
  rw [ByteArray.data_extract, Array.toList_extract, List.extract_eq_take_drop, List.take_of_length_le]
  rw [List.length_drop, Array.length_toList]
  exact Nat.le_refl _
set_option maxRecDepth 100000 in
set_option maxHeartbeats 1000000 in
theorem ends_diff (a b : ByteArray) (ha : a.size ≤ maxLen) (hb : b.size ≤ maxLen) (hyp : front a 300 ≠ front b 300) {B : Nat} {aw ab : Addr} {w : World} (hG : DGlob B aw ab w) :
    Calls Tryd.prog 12 #[.string a, .string b] w fun e w' => e = .returned (.bool true) ∧ Below w.heap.size w w' := by
  have HG := Lib.hid hG
  have HA := Lib.hid ha
  have HB' := Lib.hid hb
  have HY := Lib.hid hyp
  have l0 := front_300 a
  have l1 := front_300 b
  clear hG ha hb hyp
  go_enter Tryd.func12, Tryd.ntmps12
  go_wp2_with fail
  refine (dshown_any HG.out).mono ?_
  rintro e w1 ⟨rfl, hb1⟩
  have HB1 := Lib.hid hb1
  clear hb1
  go_wp2_with fail
  refine (dcut_any a HA.out _).mono ?_
  rintro e w' ⟨rfl, rfl⟩
  obtain ⟨fa, hfa⟩ : ∃ x, front a 300 = x := ⟨_, rfl⟩
  rw [hfa] at l0 HY ⊢
  clear hfa HA
  go_wp2_with fail
  refine (dcut_any b HB'.out _).mono ?_
  rintro e w' ⟨rfl, rfl⟩
  obtain ⟨fb, hfb⟩ : ∃ x, front b 300 = x := ⟨_, rfl⟩
  rw [hfb] at l1 HY ⊢
  clear hfb HB'
  go_wp2_with fail
  refine (endOk_any fa.size (by omega) _).mono ?_
  rintro e w2 ⟨rfl, hb2⟩
  have HB2 := Lib.hid (HB1.out.trans (hb2.mono HB1.out.size))
  obtain ⟨ea, hea⟩ : ∃ x, (⟨(Sha.endOf fa.size).toArray⟩ : ByteArray) = x := ⟨_, rfl⟩
  rw [hea]
  have HEA := Lib.hid hea
  clear hb2 hea
  go_wp2_with fail
  refine (endOk_any fb.size (by omega) _).mono ?_
  rintro e w3 ⟨rfl, hb3⟩
  have HB3 := Lib.hid (HB2.out.trans (hb3.mono HB2.out.size))
  obtain ⟨eb, heb⟩ : ∃ x, (⟨(Sha.endOf fb.size).toArray⟩ : ByteArray) = x := ⟨_, rfl⟩
  rw [heb]
  have HEB := Lib.hid heb
  clear hb3 heb
  have sa : ea.size = 9 + Sha.zeros fa.size := by rw [← HEA.out]; show (Sha.endOf fa.size).toArray.size = _; rw [List.size_toArray, Sha.endOf_length]
  have sb : eb.size = 9 + Sha.zeros fb.size := by rw [← HEB.out]; show (Sha.endOf fb.size).toArray.size = _; rw [List.size_toArray, Sha.endOf_length]
  have za : Sha.zeros fa.size ≤ 63 := by unfold Sha.zeros; omega
  have zb : Sha.zeros fb.size ≤ 63 := by unfold Sha.zeros; omega
  have wa : (fa.size + ea.size) % 64 = 0 := by rw [sa]; unfold Sha.zeros; omega
  have la : (fa.size : Int) ≤ 8388608 := by omega
  have lb : (fb.size : Int) ≤ 8388608 := by omega
  have lea : (ea.size : Int) ≤ 8388608 := by omega
  have leb : (eb.size : Int) ≤ 8388608 := by omega
  have ua : fa.size + ea.size ≤ 9223372036854775807 := by omega
  have ub : fb.size + eb.size ≤ 9223372036854775807 := by omega
  have e9 : (9 : Int) ≤ (ea.size : Int) := by omega
  have e72 : (ea.size : Int) ≤ 72 := by omega
  have e73 : eb.size ≤ 72 := by omega
  have xl : (fa ++ ea).data.toList = fa.data.toList ++ Sha.endOf fa.data.toList.length := by rw [append_list, ← HEA.out]; rfl
  have yl : (fb ++ eb).data.toList = fb.data.toList ++ Sha.endOf fb.data.toList.length := by rw [append_list, ← HEB.out]; rfl
  have xs : (fa ++ ea).size = fa.size + ea.size := ByteArray.size_append
  have ys : (fb ++ eb).size = fb.size + eb.size := ByteArray.size_append
  have XL := Lib.hid xl
  have YL := Lib.hid yl
  have WA := Lib.hid wa
  clear sa sb za zb xl yl wa
  go_upto_region 8 with (fail)
  obtain ⟨x, hx⟩ : ∃ x, fa ++ ea = x := ⟨_, rfl⟩
  obtain ⟨y, hy⟩ : ∃ y, fb ++ eb = y := ⟨_, rfl⟩
  rw [hx] at xs XL ⊢
  rw [hy] at ys YL ⊢
  have xm : ((x.size : Int) % 64) = 0 := by have := WA.out; omega
  have x6 : (x.size : Int) ≤ 1000 := by omega
  have y6 : (y.size : Int) ≤ 1000 := by omega
  clear hx hy xs ys
  have hne : (fa.toList == fb.toList) = false := by
    rw [beq_eq_false_iff_ne, ByteArray.toList_eq, ByteArray.toList_eq]
    exact fun e => HY.out (ByteArray.ext (Array.toList_inj.1 e))
  by_cases hle : (x.size : Int) ≤ (y.size : Int)
  · have hk0 : (0 : Int) ≤ (y.size : Int) - (x.size : Int) := by omega
    have hk1 : (y.size : Int) - (x.size : Int) ≤ (y.size : Int) := by omega
    have hx : ((y.extract (y.size - x.size) y.size).toList == x.toList) = false := by
      rw [beq_eq_false_iff_ne, ByteArray.toList_eq, ByteArray.toList_eq, tail_list]
      intro e
      refine HY.out (ByteArray.ext (Array.toList_inj.1 (Sha.ends_same fa.data.toList fb.data.toList l0 l1 ?_ ?_)))
      · rw [← XL.out, ← YL.out]
        have : x.data.size ≤ y.data.size := by have h : x.size ≤ y.size := by omega
                                               exact h
        simpa using this
      · rw [← XL.out, ← YL.out]
        exact e
    go_wp2_with fail
    go_ret
    exact ⟨rfl, HB3.out⟩
  · have hgt : (y.size : Int) < (x.size : Int) := by omega
    go_wp2_with fail
    go_ret
    exact ⟨rfl, HB3.out⟩
set_option maxRecDepth 100000 in
set_option maxHeartbeats 1000000 in
theorem ends_same_law (a b : ByteArray) (ha : a.size ≤ maxLen) (hb : b.size ≤ maxLen) (hyp : front a 300 = front b 300) {B : Nat} {aw ab : Addr} {w : World} (hG : DGlob B aw ab w) :
    Calls Tryd.prog 12 #[.string a, .string b] w fun e w' => e = .returned (.bool true) ∧ Below w.heap.size w w' := by
  have HG := Lib.hid hG
  have HA := Lib.hid ha
  have HB' := Lib.hid hb
  have HY := Lib.hid hyp
  have l0 := front_300 a
  have l1 := front_300 b
  clear hG ha hb hyp
  go_enter Tryd.func12, Tryd.ntmps12
  go_wp2_with fail
  refine (dshown_any HG.out).mono ?_
  rintro e w1 ⟨rfl, hb1⟩
  have HB1 := Lib.hid hb1
  clear hb1
  go_wp2_with fail
  refine (dcut_any a HA.out _).mono ?_
  rintro e w' ⟨rfl, rfl⟩
  obtain ⟨fa, hfa⟩ : ∃ x, front a 300 = x := ⟨_, rfl⟩
  rw [hfa] at l0 HY ⊢
  clear hfa HA
  go_wp2_with fail
  refine (dcut_any b HB'.out _).mono ?_
  rintro e w' ⟨rfl, rfl⟩
  obtain ⟨fb, hfb⟩ : ∃ x, front b 300 = x := ⟨_, rfl⟩
  rw [hfb] at l1 HY ⊢
  clear hfb HB'
  go_wp2_with fail
  refine (endOk_any fa.size (by omega) _).mono ?_
  rintro e w2 ⟨rfl, hb2⟩
  have HB2 := Lib.hid (HB1.out.trans (hb2.mono HB1.out.size))
  obtain ⟨ea, hea⟩ : ∃ x, (⟨(Sha.endOf fa.size).toArray⟩ : ByteArray) = x := ⟨_, rfl⟩
  rw [hea]
  have HEA := Lib.hid hea
  clear hb2 hea
  go_wp2_with fail
  refine (endOk_any fb.size (by omega) _).mono ?_
  rintro e w3 ⟨rfl, hb3⟩
  have HB3 := Lib.hid (HB2.out.trans (hb3.mono HB2.out.size))
  obtain ⟨eb, heb⟩ : ∃ x, (⟨(Sha.endOf fb.size).toArray⟩ : ByteArray) = x := ⟨_, rfl⟩
  rw [heb]
  have HEB := Lib.hid heb
  clear hb3 heb
  have sa : ea.size = 9 + Sha.zeros fa.size := by rw [← HEA.out]; show (Sha.endOf fa.size).toArray.size = _; rw [List.size_toArray, Sha.endOf_length]
  have sb : eb.size = 9 + Sha.zeros fb.size := by rw [← HEB.out]; show (Sha.endOf fb.size).toArray.size = _; rw [List.size_toArray, Sha.endOf_length]
  have za : Sha.zeros fa.size ≤ 63 := by unfold Sha.zeros; omega
  have zb : Sha.zeros fb.size ≤ 63 := by unfold Sha.zeros; omega
  have wa : (fa.size + ea.size) % 64 = 0 := by rw [sa]; unfold Sha.zeros; omega
  have la : (fa.size : Int) ≤ 8388608 := by omega
  have lb : (fb.size : Int) ≤ 8388608 := by omega
  have lea : (ea.size : Int) ≤ 8388608 := by omega
  have leb : (eb.size : Int) ≤ 8388608 := by omega
  have ua : fa.size + ea.size ≤ 9223372036854775807 := by omega
  have ub : fb.size + eb.size ≤ 9223372036854775807 := by omega
  have e9 : (9 : Int) ≤ (ea.size : Int) := by omega
  have e72 : (ea.size : Int) ≤ 72 := by omega
  have e73 : eb.size ≤ 72 := by omega
  have xl : (fa ++ ea).data.toList = fa.data.toList ++ Sha.endOf fa.data.toList.length := by rw [append_list, ← HEA.out]; rfl
  have yl : (fb ++ eb).data.toList = fb.data.toList ++ Sha.endOf fb.data.toList.length := by rw [append_list, ← HEB.out]; rfl
  have xs : (fa ++ ea).size = fa.size + ea.size := ByteArray.size_append
  have ys : (fb ++ eb).size = fb.size + eb.size := ByteArray.size_append
  have XL := Lib.hid xl
  have YL := Lib.hid yl
  have WA := Lib.hid wa
  clear sa sb za zb xl yl wa
  go_upto_region 8 with (fail)
  obtain ⟨x, hx⟩ : ∃ x, fa ++ ea = x := ⟨_, rfl⟩
  obtain ⟨y, hy⟩ : ∃ y, fb ++ eb = y := ⟨_, rfl⟩
  rw [hx] at xs XL ⊢
  rw [hy] at ys YL ⊢
  have xm : ((x.size : Int) % 64) = 0 := by have := WA.out; omega
  have x6 : (x.size : Int) ≤ 1000 := by omega
  have y6 : (y.size : Int) ≤ 1000 := by omega
  clear hx hy xs ys
  obtain rfl : fa = fb := HY.out
  obtain rfl : y = x := by
    apply ByteArray.ext
    apply Array.toList_inj.1
    rw [XL.out, YL.out]
  have hex : y.extract 0 y.size = y := by simp
  have hk0 : (y.size : Int) - (y.size : Int) = 0 := by omega
  go_wp2_with fail
  go_ret
  exact ⟨rfl, HB3.out⟩
/-- EVERY TWO TEXTS. -/
theorem ends_law (a b : ByteArray) (ha : a.size ≤ maxLen) (hb : b.size ≤ maxLen) {B : Nat} {aw ab : Addr} {w : World} (hG : DGlob B aw ab w) :
    Calls Tryd.prog 12 #[.string a, .string b] w fun e w' => e = .returned (.bool true) ∧ Below w.heap.size w w' := by
  by_cases h : front a 300 = front b 300
  · exact ends_same_law a b ha hb h hG
  · exact ends_diff a b ha hb h hG
end Go.Proofs.YtfafidholldjlaaDoor
namespace Go.Proofs.YtfafidholldjlaaDoor.digestEnds
open Go.ChangeShapes Go.WideShapes Go.ChangeAt Go.RowKit
set_option maxRecDepth 100000 in
set_option maxHeartbeats 1000000 in
theorem contract (H : Type) (enc : TypeId × Value → H) (W : World) (base : Nat) (args : Array Value) (ds gs : List (DataW H)) (before : List MemPlace)
    (hval : ∀ (j : Nat) t v, Tryd.f12.params[j]? = some t → args[j]? = some v → Value.okWide Tryd.prog W .any base t v)
    (hW : DataW.Whole enc Tryd.prog Tryd.f12.params.toList Rows.digestEndsSpec.vars false W args.toList ds gs before) (hL : laidMetH Tryd.prog Rows.digestEndsRow.laid W) (hS : W.ShapedOpen Tryd.prog) :
    Calls Tryd.prog 12 args W fun e W' => ∃ v, e = .returned v ∧ Rows.digestEndsSpec.post enc Tryd.prog Tryd.f12 false true false false W args v W' := by
  have hW' := hW
  obtain ⟨p, q, hA0, hV, rfl, hfz, hnd⟩ := hW
  have hA : DataW.TrodAll enc Tryd.prog W 0 (fun _ => true) true Tryd.f12.params.toList args.toList ds p := hA0
  rw [Tryd.params12] at hA hval
  obtain ⟨v0, vs0, d0, ds0, p0, q0, hargs, rfl, rfl, h0, r0⟩ := trodAll_cons hA
  obtain ⟨v1, vs1, d1, ds1, p1, q1, rfl, rfl, rfl, h1, r1⟩ := trodAll_cons r0
  obtain ⟨rfl, rfl, rfl⟩ := trodAll_nil r1
  obtain rfl : args = #[v0, v1] := by cases args; simp_all
  obtain ⟨rfl, rfl⟩ := trodVars_none hV
  obtain ⟨b0, rfl, rfl, rfl, hw0⟩ := Go.ChangeMaps.open_string Tryd.underlying9 (hval 0 9 v0 rfl rfl) h0
  obtain ⟨b1, rfl, rfl, rfl, hw1⟩ := Go.ChangeMaps.open_string Tryd.underlying9 (hval 1 9 v1 rfl rfl) h1
  clear hA0
  simp only [List.append_nil] at hW'
  obtain ⟨aw, ab, hG⟩ := dglob_of hS hL
  have walk := ends_law b0 b1 hw0 hw1 hG
  refine walk.mono fun e W' ⟨he, hb⟩ => ?_
  subst he
  exact ⟨_, rfl, post_plain hW' (fun _ _ _ => trodAll_cons_mk (shut_bool Tryd.underlying4 _) trodAll_mk0) (fun _ => (trodAll_cons_mk (Go.ChangeMaps.shut_string Tryd.underlying9 hw0) (trodAll_cons_mk (Go.ChangeMaps.shut_string Tryd.underlying9 hw1) trodAll_mk0))) (fun _ => rfl) hb (ok_one (by kernel_rfl) rfl (okWide_bool_mk Tryd.underlying4 _))⟩
theorem reads (os : Os) {H : Type} (enc : TypeId × Value → H) : ∃ places, DataW.whole enc Tryd.prog ((laidWorldE os).forCall (fun _ _ => 0) ⟨#[], #[.string ⟨#[]⟩, .string ⟨#[]⟩], []⟩).memory Tryd.f12.params.toList Rows.digestEndsSpec.vars false (#[.string ⟨#[]⟩, .string ⟨#[]⟩] : Array Value).toList 8 = some ([.lit (.string []), .lit (.string [])], [], places) :=
  ⟨[], by kernel_rfl⟩
set_option maxRecDepth 100000 in
theorem lifted (os : Os) (started : os.Started) (H : Type) (enc : TypeId × Value → H) (F : Stop.Interp) :
    ReturnsInHanded {} Tryd.checked os 12 .any ((OpenSpec.ofChange Rows.digestEndsSpec).preRow enc Tryd.prog Tryd.f12 Rows.digestEndsRow.domain false Rows.digestEndsRow.laid) (((OpenSpec.ofChange Rows.digestEndsSpec).at F).post enc Tryd.prog Tryd.f12 false true false false) := by
  obtain ⟨places, hx⟩ := reads os enc
  refine returnsInHanded_of_row (C := Tryd.checked) (s := OpenSpec.ofChange Rows.digestEndsSpec) own started (by kernel_rfl) Tryd.func12
    (witness_row_atRef (enc := enc) (C := Tryd.checked) false (laidWorldE os) #[.string ⟨#[]⟩, .string ⟨#[]⟩] rfl (by kernel_rfl) (by kernel_rfl) (by kernel_rfl)
      (OpenSpec.preRow_of_cond 8 hx (by kernel_rfl) (fun k hk => by cases hk) (by kernel_rfl) (laid_met_two os _))) ?_
  intro W base args ds gs before hval hW _ _ _ hL hS _
  exact contract H enc W base args ds gs before hval hW hL hS
theorem facts : joinedFacts Tryd.prog 12 Tryd.f12 Rows.digestEndsSpec Rows.digestEndsRow = true := by
  unfold joinedFacts
  rw [may, lifts, make_cut]
  kernel_rfl
set_option maxRecDepth 100000 in
theorem said : Rows.DigestEndsSaid :=
  OpenClaim.holds_of_cond 12 Tryd.f12 rfl rfl rfl rfl rfl rfl rfl ⟨rfl, rfl, rfl, rfl, rfl⟩ rfl rfl rfl rfl rfl (by kernel_rfl) Tryd.func12 facts
    (of_decide_eq_true (by kernel_rfl)) (by unfold Func.isWrapper; first | (rw [if_pos (by decide +kernel)]; kernel_rfl) | (rw [if_neg (by decide +kernel)]; exact ⟨rfl, rfl⟩))
    (fun os started H enc _ F => by rw [OpenClaim.pre_eq_preRow]; exact lifted os started H enc F)
theorem plain (f : FuncId) (fn : Func) (hf : Tryd.pinned.checked.prog.funcNamed "sigillary/sigillarylaw02.DigestEnds" = some f) (hfn : Tryd.pinned.checked.prog.funcs[f]? = some fn) :
    true = Tryd.pinned.checked.prog.looks [] ∧ ∀ (j : Nat) t, fn.params[j]? = some t → Tryd.pinned.checked.prog.wantsStandIn t = false := by
  obtain rfl : f = 12 := Option.some.inj ((show Tryd.prog.funcNamed "sigillary/sigillarylaw02.DigestEnds" = some 12 by kernel_rfl).symm.trans hf) |>.symm
  obtain rfl : fn = Tryd.f12 := (Option.some.inj (Tryd.func12.symm.trans hfn)).symm
  refine ⟨by kernel_rfl, fun j t ht => ?_⟩
  rw [Tryd.params12] at ht
  have hm : t = 9 := by
    have := Array.mem_of_getElem? ht
    simpa using this
  obtain rfl := hm
  · exact (show Tryd.prog.wantsStandIn 9 = false by kernel_rfl)
/-- ████ THE CARD ████ -/
theorem card : Rows.DigestEndsCardSaid :=
  Claim7.holds_tied_plain_at .later [] _ _ _ _ said (fun _ h => by cases h) (by kernel_rfl) (fun _ h => by cases h) digestEnds_row_tie rfl ⟨rfl, rfl⟩ main_is rfl plain (by kernel_rfl)
end Go.Proofs.YtfafidholldjlaaDoor.digestEnds
