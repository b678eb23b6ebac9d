/- Proved: TagKeys answers true for every input, never panics, and its input reads as it did; the one condition: the listed variables hold what the program's own text lays in them. -/
import Derived.Test.YtfafidholldjlaaDoorZP
import Derived.Test.YtfafidholldjlaaDoorZK
import Derived.Test.YtfafidholldjlaaDoorZC
/- The law TagKeys. -/
set_option linter.unusedVariables false
set_option linter.unusedSimpArgs false
namespace Go.Proofs.YtfafidholldjlaaDoor
open Go.RowKit
theorem hmac_long (k s : List UInt8) (h : 64 < k.length) : Sha.hmac (Sha.digestOf k) s = Sha.hmac k s := by
  have e1 : Sha.keyOf (Sha.digestOf k) = Sha.digestOf k := by
    unfold Sha.keyOf
    rw [Sha.digestOf_length, if_neg (by decide)]
  have e2 : Sha.keyOf k = Sha.digestOf k := by
    unfold Sha.keyOf
    rw [if_pos h]
  unfold Sha.hmac
  rw [e1, e2]
theorem hmac_short (k s : List UInt8) (m : Nat) (h : k.length + m ≤ 64) : Sha.hmac (k ++ List.replicate m 0) s = Sha.hmac k s := by
  have hl : (k ++ List.replicate m (0 : UInt8)).length = k.length + m := by simp
  have e1 : Sha.keyOf (k ++ List.replicate m 0) = k ++ List.replicate m 0 := by
    unfold Sha.keyOf
    rw [hl, if_neg (by omega)]
  have e2 : Sha.keyOf k = k := by
    unfold Sha.keyOf
    rw [if_neg (by omega)]
  have e3 : Sha.padded (k ++ List.replicate m 0) = Sha.padded k := by
    unfold Sha.padded
    rw [hl, List.append_assoc, List.replicate_append_replicate]
    congr 2
    omega
  unfold Sha.hmac Sha.inOf Sha.mixed
  rw [e1, e2, e3]
def tagText (k s : ByteArray) : ByteArray := ⟨(Sha.hmac k.data.toList s.data.toList).toArray⟩
theorem tag_sum (k s : ByteArray) (h : 64 < k.size) : tagText (shaBytes k.data.toList) s = tagText k s := by
  unfold tagText
  have h' : 64 < k.data.toList.length := h
  show (⟨(Sha.hmac (Sha.digestOf k.data.toList) s.data.toList).toArray⟩ : ByteArray) = _
  rw [hmac_long _ _ h']
theorem tag_zero (k s : ByteArray) (m : Nat) (h : k.size + m ≤ 64) : tagText (k ++ zeroText m) s = tagText k s := by
  unfold tagText
  have h' : k.data.toList.length + m ≤ 64 := h
  have e : (k ++ zeroText m).data.toList = k.data.toList ++ List.replicate m 0 := by
    rw [ByteArray.data_append, Array.toList_append]
    simp [zeroText]
  rw [e, hmac_short _ _ m h']
set_option maxRecDepth 100000 in
set_option maxHeartbeats 1000000 in
theorem tkeys_law (k s : ByteArray) (n : Int) (hk : k.size ≤ maxLen) (hs : s.size ≤ maxLen) {B : Nat} {aw ab : Addr} {w : World} (hG : DGlob B aw ab w) :
    Calls Tryd.prog 17 #[.string k, .string s, .int .i64 n] w fun e w' => e = .returned (.bool true) ∧ Below w.heap.size w w' := by
  have HG := Lib.hid hG
  have HK := Lib.hid hk
  have HS := Lib.hid hs
  have l0 := front_200 k
  have l1 := front_200 s
  clear hG hk hs
  go_enter Tryd.func17, Tryd.ntmps17
  go_wp2_with fail
  refine (tshown_any HG.out.glob).mono ?_
  rintro e w1 ⟨rfl, hb1⟩
  have HB1 := Lib.hid hb1
  clear hb1
  go_wp2_with fail
  refine (tcut_any k HK.out _).mono ?_
  rintro e w' ⟨rfl, rfl⟩
  obtain ⟨f, hf⟩ : ∃ x, front k 200 = x := ⟨_, rfl⟩
  rw [hf] at l0 ⊢
  clear hf HK
  go_wp2_with fail
  refine (tcut_any s HS.out _).mono ?_
  rintro e w' ⟨rfl, rfl⟩
  obtain ⟨g, hg⟩ : ∃ x, front s 200 = x := ⟨_, rfl⟩
  rw [hg] at l1 ⊢
  clear hg HS
  have ht : ∀ W, Glob B aw ab W → ∀ x : ByteArray, x.size ≤ 1000 → Calls Tryd.prog 53 #[.string x, .string g] W fun e w' => e = .returned (.tuple #[.string (tagText x g), .int .i64 0]) ∧ Below W.heap.size W w' := fun W hW x hx => tag_ok hW x g (by omega) (by omega)
  have HT := Lib.hid ht
  clear ht
  have lf : (f.size : Int) ≤ 200 := by omega
  go_wp2_with fail
  refine (HT.out _ (HG.out.glob.below (HB1.out.mono HG.out.glob.size)) f (by omega)).mono ?_
  rintro e w2 ⟨rfl, hb⟩
  have HB2 := Lib.hid (HB1.out.trans (hb.mono HB1.out.size))
  clear hb
  by_cases h64 : (64 : Int) < (f.size : Int)
  · have hx := tag_sum f g (by omega)
    have hz : (shaBytes f.data.toList).size = 32 := shaBytes_size _
    have hd := dsum_ok (HG.out.glob.below (HB2.out.mono HG.out.glob.size)) f (by omega)
    generalize shaBytes f.data.toList = q at hx hz hd
    obtain ⟨t, htt⟩ : ∃ t, tagText f g = t := ⟨_, rfl⟩
    rw [htt] at hx ⊢
    have HX := Lib.hid hx
    have HD := Lib.hid hd
    clear hx hd htt
    go_wp2_with fail
    refine HD.out.mono ?_
    rintro e w3 ⟨rfl, hb⟩
    have HB3 := Lib.hid (HB2.out.trans (hb.mono HB2.out.size))
    clear hb
    go_wp2_with fail
    refine (HT.out _ (HG.out.glob.below (HB3.out.mono HG.out.glob.size)) q (by omega)).mono ?_
    rw [HX.out]
    rintro e w4 ⟨rfl, hb⟩
    have HB4 := Lib.hid (HB3.out.trans (hb.mono HB3.out.size))
    clear hb
    go_wp2_with fail
    go_ret
    exact ⟨rfl, HB4.out⟩
  · have hcase : (n < 0 ∧ ∃ m : Nat, m = 0 ∧ f.size + m ≤ 64) ∨ (0 ≤ n ∧ n ≤ 64 - (f.size : Int)) ∨ (0 ≤ n ∧ 64 - (f.size : Int) < n) := by
      by_cases h1 : n < 0
      · exact .inl ⟨h1, 0, rfl, by omega⟩
      · by_cases h2 : n ≤ 64 - (f.size : Int)
        · exact .inr (.inl ⟨by omega, h2⟩)
        · exact .inr (.inr ⟨by omega, by omega⟩)
    have fin : ∀ m : Nat, f.size + m ≤ 64 → Hid ((∀ W, (Instr.makeSlice 40 (.int .i64 (m : Int)) (.int .i64 (m : Int))).run Tryd.prog W = .ok (.slice (some ⟨W.heap.size, 0, none⟩) m m) (W.alloc (.cells (List.replicate m (Value.int .u8 0)).toArray 5))) ∧
        (∀ W : World, (convert 40 9 (.slice (some ⟨W.heap.size, 0, none⟩) m m)).run Tryd.prog (W.alloc (.cells (List.replicate m (Value.int .u8 0)).toArray 5)) = .ok (.string (zeroText m)) (W.alloc (.cells (List.replicate m (Value.int .u8 0)).toArray 5))) ∧ tagText (f ++ zeroText m) g = tagText f g ∧ (zeroText m).size = m) := fun m hm =>
      Lib.hid ⟨make_bytes m (by omega) (m : Int) rfl, fun W => conv_zero m _ _ (alloc_heap _ _), tag_zero f g m hm, zeroText_size m⟩
    have hsub : IntKind.i64.wrap (64 - (f.size : Int)) = 64 - (f.size : Int) := IntWalk.i64_in _ (by omega)
    obtain ⟨m, hm, hmi⟩ : ∃ m : Nat, f.size + m ≤ 64 ∧ (m : Int) = min (max n 0) (64 - (f.size : Int)) := ⟨(min (max n 0) (64 - (f.size : Int))).toNat, by omega, by omega⟩
    obtain ⟨m1, v1, x1, z1⟩ := (fin m hm).out
    clear fin
    generalize (List.replicate m (Value.int .u8 0)).toArray = M at m1 v1
    generalize zeroText m = z at v1 x1 z1
    obtain ⟨t, htt⟩ : ∃ t, tagText f g = t := ⟨_, rfl⟩
    rw [htt] at x1 ⊢
    have HX := Lib.hid x1
    have HF := Lib.hid htt
    have zs : (f ++ z).size = f.size + z.size := ByteArray.size_append
    have zb : f.size + z.size ≤ 9223372036854775807 := by omega
    have hzs : (f ++ z).size ≤ 1000 := by omega
    have HZS := Lib.hid hzs
    clear x1 htt zs hzs z1
    rcases hcase with ⟨h1, _⟩ | ⟨h1, h2⟩ | ⟨h1, h2⟩
    case' inl => have em : (m : Int) = 0 := by omega
    case' inr.inl => have em : (m : Int) = n := by omega
    case' inr.inr => have em : (m : Int) = 64 - (f.size : Int) := by omega
    all_goals
      rw [em] at m1
      clear em hmi
      go_wp2_with fail
      refine (HT.out _ (HG.out.glob.below (((HB2.out.alloc HB2.out.size _)).mono HG.out.glob.size)) (f ++ z) HZS.out).mono ?_
      rw [HX.out]
      rintro e w4 ⟨rfl, hb⟩
      have HB4 := Lib.hid ((HB2.out.alloc HB2.out.size _).trans (hb.mono (Nat.le_trans HB2.out.size (by simp))))
      clear hb
      go_wp2_with fail
      go_ret
      exact ⟨rfl, HB4.out⟩
end Go.Proofs.YtfafidholldjlaaDoor
namespace Go.Proofs.YtfafidholldjlaaDoor.tagKeys
open Go.ChangeShapes Go.WideShapes Go.ChangeAt Go.RowKit
set_option maxRecDepth 100000 in
set_option maxHeartbeats 1000000 in
theorem contract (H : Type) (enc : TypeId × Value → H) (W : World) (base : Nat) (args : Array Value) (ds gs : List (DataW H)) (before : List MemPlace)
    (hval : ∀ (j : Nat) t v, Tryd.f17.params[j]? = some t → args[j]? = some v → Value.okWide Tryd.prog W .any base t v)
    (hW : DataW.Whole enc Tryd.prog Tryd.f17.params.toList Rows.tagKeysSpec.vars false W args.toList ds gs before) (hL : laidMetH Tryd.prog Rows.tagKeysRow.laid W) (hS : W.ShapedOpen Tryd.prog) :
    Calls Tryd.prog 17 args W fun e W' => ∃ v, e = .returned v ∧ Rows.tagKeysSpec.post enc Tryd.prog Tryd.f17 false true false false W args v W' := by
  have hW' := hW
  obtain ⟨p, q, hA0, hV, rfl, hfz, hnd⟩ := hW
  have hA : DataW.TrodAll enc Tryd.prog W 0 (fun _ => true) true Tryd.f17.params.toList args.toList ds p := hA0
  rw [Tryd.params17] at hA hval
  obtain ⟨v0, vs0, d0, ds0, p0, q0, hargs, rfl, rfl, h0, r0⟩ := trodAll_cons hA
  obtain ⟨v1, vs1, d1, ds1, p1, q1, rfl, rfl, rfl, h1, r1⟩ := trodAll_cons r0
  obtain ⟨v2, vs2, d2, ds2, p2, q2, rfl, rfl, rfl, h2, r2⟩ := trodAll_cons r1
  obtain ⟨rfl, rfl, rfl⟩ := trodAll_nil r2
  obtain rfl : args = #[v0, v1, v2] := by cases args; simp_all
  obtain ⟨rfl, rfl⟩ := trodVars_none hV
  obtain ⟨b0, rfl, rfl, rfl, hw0⟩ := Go.ChangeMaps.open_string Tryd.underlying9 (hval 0 9 v0 rfl rfl) h0
  obtain ⟨b1, rfl, rfl, rfl, hw1⟩ := Go.ChangeMaps.open_string Tryd.underlying9 (hval 1 9 v1 rfl rfl) h1
  obtain ⟨n2, rfl, rfl, rfl, hw2⟩ := open_int Tryd.underlying3 (hval 2 3 v2 rfl rfl) h2
  clear hA0
  simp only [List.append_nil] at hW'
  obtain ⟨aw, ab, hG⟩ := dglob_of hS hL
  have walk := tkeys_law b0 b1 n2 hw0 hw1  hG
  refine walk.mono fun e W' ⟨he, hb⟩ => ?_
  subst he
  exact ⟨_, rfl, post_plain hW' (fun _ _ _ => trodAll_cons_mk (shut_bool Tryd.underlying4 _) trodAll_mk0) (fun _ => (trodAll_cons_mk (Go.ChangeMaps.shut_string Tryd.underlying9 hw0) (trodAll_cons_mk (Go.ChangeMaps.shut_string Tryd.underlying9 hw1) (trodAll_cons_mk (shut_int Tryd.underlying3 hw2) trodAll_mk0)))) (fun _ => rfl) hb (ok_one (by kernel_rfl) rfl (okWide_bool_mk Tryd.underlying4 _))⟩
theorem reads (os : Os) {H : Type} (enc : TypeId × Value → H) : ∃ places, DataW.whole enc Tryd.prog ((laidWorldE os).forCall (fun _ _ => 0) ⟨#[], #[.string ⟨#[]⟩, .string ⟨#[]⟩, .int .i64 0], []⟩).memory Tryd.f17.params.toList Rows.tagKeysSpec.vars false (#[.string ⟨#[]⟩, .string ⟨#[]⟩, .int .i64 0] : Array Value).toList 8 = some ([.lit (.string []), .lit (.string []), .lit (.int .i64 0)], [], places) :=
  ⟨[], by kernel_rfl⟩
set_option maxRecDepth 100000 in
theorem lifted (os : Os) (started : os.Started) (H : Type) (enc : TypeId × Value → H) (F : Stop.Interp) :
    ReturnsInHanded {} Tryd.checked os 17 .any ((OpenSpec.ofChange Rows.tagKeysSpec).preRow enc Tryd.prog Tryd.f17 Rows.tagKeysRow.domain false Rows.tagKeysRow.laid) (((OpenSpec.ofChange Rows.tagKeysSpec).at F).post enc Tryd.prog Tryd.f17 false true false false) := by
  obtain ⟨places, hx⟩ := reads os enc
  refine returnsInHanded_of_row (C := Tryd.checked) (s := OpenSpec.ofChange Rows.tagKeysSpec) own started (by kernel_rfl) Tryd.func17
    (witness_row_atRef (enc := enc) (C := Tryd.checked) false (laidWorldE os) #[.string ⟨#[]⟩, .string ⟨#[]⟩, .int .i64 0] rfl (by kernel_rfl) (by kernel_rfl) (by kernel_rfl)
      (OpenSpec.preRow_of_cond 8 hx (by kernel_rfl) (fun k hk => by cases hk) (by kernel_rfl) (laid_met_two os _))) ?_
  intro W base args ds gs before hval hW _ _ _ hL hS _
  exact contract H enc W base args ds gs before hval hW hL hS
theorem facts : joinedFacts Tryd.prog 17 Tryd.f17 Rows.tagKeysSpec Rows.tagKeysRow = true := by
  unfold joinedFacts
  rw [may, lifts, make_cut]
  kernel_rfl
set_option maxRecDepth 100000 in
theorem said : Rows.TagKeysSaid :=
  OpenClaim.holds_of_cond 17 Tryd.f17 rfl rfl rfl rfl rfl rfl rfl ⟨rfl, rfl, rfl, rfl, rfl⟩ rfl rfl rfl rfl rfl (by kernel_rfl) Tryd.func17 facts
    (of_decide_eq_true (by kernel_rfl)) (by unfold Func.isWrapper; first | (rw [if_pos (by decide +kernel)]; kernel_rfl) | (rw [if_neg (by decide +kernel)]; exact ⟨rfl, rfl⟩))
    (fun os started H enc _ F => by rw [OpenClaim.pre_eq_preRow]; exact lifted os started H enc F)
theorem plain (f : FuncId) (fn : Func) (hf : Tryd.pinned.checked.prog.funcNamed "sigillary/sigillarylaw03.TagKeys" = some f) (hfn : Tryd.pinned.checked.prog.funcs[f]? = some fn) :
    true = Tryd.pinned.checked.prog.looks [] ∧ ∀ (j : Nat) t, fn.params[j]? = some t → Tryd.pinned.checked.prog.wantsStandIn t = false := by
  obtain rfl : f = 17 := Option.some.inj ((show Tryd.prog.funcNamed "sigillary/sigillarylaw03.TagKeys" = some 17 by kernel_rfl).symm.trans hf) |>.symm
  obtain rfl : fn = Tryd.f17 := (Option.some.inj (Tryd.func17.symm.trans hfn)).symm
  refine ⟨by kernel_rfl, fun j t ht => ?_⟩
  rw [Tryd.params17] at ht
  have hm : t = 9 ∨ t = 3 := by
    have := Array.mem_of_getElem? ht
    simpa using this
  rcases hm with rfl | rfl
  · exact (show Tryd.prog.wantsStandIn 9 = false by kernel_rfl)
  · exact (show Tryd.prog.wantsStandIn 3 = false by kernel_rfl)
/-- ████ THE CARD ████ -/
theorem card : Rows.TagKeysCardSaid :=
  Claim7.holds_tied_plain_at .later [] _ _ _ _ said (fun _ h => by cases h) (by kernel_rfl) (fun _ h => by cases h) tagKeys_row_tie rfl ⟨rfl, rfl⟩ main_is rfl plain (by kernel_rfl)
end Go.Proofs.YtfafidholldjlaaDoor.tagKeys
