/- Proved: TagEnds answers true for every input, never panics, and its input reads as it did; the one condition: the listed variables hold what the program's own text lays in them. -/
import Derived.Test.YtfafidholldjlaaDoorZP
import Derived.Test.YtfafidholldjlaaDoorZK
import Derived.Test.YtfafidholldjlaaDoorZC
/- The law TagEnds. -/
set_option linter.unusedVariables false
set_option linter.unusedSimpArgs false
namespace Go.Proofs.YtfafidholldjlaaDoor
open Go.RowKit
theorem hmac_size (k s : List UInt8) : (⟨(Sha.hmac k s).toArray⟩ : ByteArray).size = 32 := by
  show (Sha.hmac k s).toArray.size = 32
  rw [List.size_toArray, Sha.hmac_length]
set_option maxRecDepth 100000 in
set_option maxHeartbeats 1000000 in
theorem tends_law (s : ByteArray) (b : Bool) (hs : s.size ≤ maxLen) {B : Nat} {aw ab : Addr} {w : World} (hG : DGlob B aw ab w) :
    Calls Tryd.prog 19 #[.string s, .bool b] w fun e w' => e = .returned (.bool true) ∧ Below w.heap.size w w' := by
  have HG := Lib.hid hG
  have HS := Lib.hid hs
  have l0 := front_200 s
  have m1 := make_bytes 99937 (by decide) 99937 (by rfl)
  have m2 := make_bytes 100001 (by decide) 100001 (by rfl)
  have v1 := fun W : World => conv_zero 99937 (W.alloc (.cells (List.replicate 99937 (Value.int .u8 0)).toArray 5)) W.heap.size (alloc_heap _ _)
  have v2 := fun W : World => conv_zero 100001 ((W.alloc (.cells (List.replicate 99937 (Value.int .u8 0)).toArray 5)).alloc (.cells (List.replicate 100001 (Value.int .u8 0)).toArray 5)) (W.heap.size + 1) (alloc_heap_at _ _ _ (by rw [World.size_alloc]))
  have z1 := zeroText_size 99937
  have z2 := zeroText_size 100001
  generalize (List.replicate 99937 (Value.int .u8 0)).toArray = M1 at m1 v1 v2
  generalize (List.replicate 100001 (Value.int .u8 0)).toArray = M2 at m2 v2
  generalize zeroText 99937 = x1 at v1 z1
  generalize zeroText 100001 = x2 at v2 z2
  have M1' := Lib.hid m1
  have M2' := Lib.hid m2
  have V1 := Lib.hid v1
  have V2 := Lib.hid v2
  have Z1 := Lib.hid z1
  have Z2 := Lib.hid z2
  clear hG hs m1 m2 v1 v2 z1 z2
  go_enter Tryd.func19, Tryd.ntmps19
  go_wp2_with fail
  refine (tshown_any HG.out.glob).mono ?_
  rintro e w1 ⟨rfl, hb1⟩
  have HB1 := Lib.hid hb1
  clear hb1
  go_wp2_with fail
  refine (tcut_any s HS.out _).mono ?_
  rintro e w' ⟨rfl, rfl⟩
  obtain ⟨f, hf⟩ : ∃ x, front s 200 = x := ⟨_, rfl⟩
  rw [hf] at l0 ⊢
  clear hf HS
  have ht := tag_ok (HG.out.glob.below (HB1.out.mono HG.out.glob.size)) f f (by omega) (by omega)
  have hts := hmac_size f.data.toList f.data.toList
  generalize (⟨(Sha.hmac f.data.toList f.data.toList).toArray⟩ : ByteArray) = t at ht hts
  have HT := Lib.hid ht
  clear ht
  go_wp2_with fail
  refine HT.out.mono ?_
  rintro e w2 ⟨rfl, hb⟩
  have HB2 := Lib.hid (HB1.out.trans (hb.mono HB1.out.size))
  clear hb
  have m1 := M1'.out
  have m2 := M2'.out
  have v1 := V1.out
  have v2 := V2.out
  have HL1 := Lib.hid (fun w => tag_long (w := w) f x1 (by omega) (by have := Z1.out; omega) (.inr (by have := Z1.out; omega)))
  have HL2 := Lib.hid (fun w => tag_long (w := w) x2 f (by have := Z2.out; omega) (by omega) (.inl (by have := Z2.out; omega)))
  cases b
  · go_upto_region 9 with fail
    clear m1 m2 v1 v2
    go_wp2_with fail
    refine (HL1.out _).mono ?_
    rintro e w3 ⟨rfl, rfl⟩
    go_wp2_with fail
    go_ret
    exact ⟨rfl, (HB2.out.alloc HB2.out.size _).alloc (Nat.le_trans HB2.out.size (by simp)) _⟩
  · go_upto_region 7 with fail
    clear m1 m2 v1 v2
    go_wp2_with fail
    refine (HL2.out _).mono ?_
    rintro e w3 ⟨rfl, rfl⟩
    go_wp2_with fail
    go_ret
    exact ⟨rfl, (HB2.out.alloc HB2.out.size _).alloc (Nat.le_trans HB2.out.size (by simp)) _⟩
end Go.Proofs.YtfafidholldjlaaDoor
namespace Go.Proofs.YtfafidholldjlaaDoor.tagEnds
open Go.ChangeShapes Go.WideShapes Go.ChangeAt Go.RowKit
set_option maxRecDepth 100000 in
set_option maxHeartbeats 1000000 in
theorem contract (H : Type) (enc : TypeId × Value → H) (W : World) (base : Nat) (args : Array Value) (ds gs : List (DataW H)) (before : List MemPlace)
    (hval : ∀ (j : Nat) t v, Tryd.f19.params[j]? = some t → args[j]? = some v → Value.okWide Tryd.prog W .any base t v)
    (hW : DataW.Whole enc Tryd.prog Tryd.f19.params.toList Rows.tagEndsSpec.vars false W args.toList ds gs before) (hL : laidMetH Tryd.prog Rows.tagEndsRow.laid W) (hS : W.ShapedOpen Tryd.prog) :
    Calls Tryd.prog 19 args W fun e W' => ∃ v, e = .returned v ∧ Rows.tagEndsSpec.post enc Tryd.prog Tryd.f19 false true false false W args v W' := by
  have hW' := hW
  obtain ⟨p, q, hA0, hV, rfl, hfz, hnd⟩ := hW
  have hA : DataW.TrodAll enc Tryd.prog W 0 (fun _ => true) true Tryd.f19.params.toList args.toList ds p := hA0
  rw [Tryd.params19] at hA hval
  obtain ⟨v0, vs0, d0, ds0, p0, q0, hargs, rfl, rfl, h0, r0⟩ := trodAll_cons hA
  obtain ⟨v1, vs1, d1, ds1, p1, q1, rfl, rfl, rfl, h1, r1⟩ := trodAll_cons r0
  obtain ⟨rfl, rfl, rfl⟩ := trodAll_nil r1
  obtain rfl : args = #[v0, v1] := by cases args; simp_all
  obtain ⟨rfl, rfl⟩ := trodVars_none hV
  obtain ⟨b0, rfl, rfl, rfl, hw0⟩ := Go.ChangeMaps.open_string Tryd.underlying9 (hval 0 9 v0 rfl rfl) h0
  obtain ⟨b1, rfl, rfl, rfl⟩ := open_bool Tryd.underlying4 (hval 1 4 v1 rfl rfl) h1
  clear hA0
  simp only [List.append_nil] at hW'
  obtain ⟨aw, ab, hG⟩ := dglob_of hS hL
  have walk := tends_law b0 b1 hw0  hG
  refine walk.mono fun e W' ⟨he, hb⟩ => ?_
  subst he
  exact ⟨_, rfl, post_plain hW' (fun _ _ _ => trodAll_cons_mk (shut_bool Tryd.underlying4 _) trodAll_mk0) (fun _ => (trodAll_cons_mk (Go.ChangeMaps.shut_string Tryd.underlying9 hw0) (trodAll_cons_mk (shut_bool Tryd.underlying4 _) trodAll_mk0))) (fun _ => rfl) hb (ok_one (by kernel_rfl) rfl (okWide_bool_mk Tryd.underlying4 _))⟩
theorem reads (os : Os) {H : Type} (enc : TypeId × Value → H) : ∃ places, DataW.whole enc Tryd.prog ((laidWorldE os).forCall (fun _ _ => 0) ⟨#[], #[.string ⟨#[]⟩, .bool false], []⟩).memory Tryd.f19.params.toList Rows.tagEndsSpec.vars false (#[.string ⟨#[]⟩, .bool false] : Array Value).toList 8 = some ([.lit (.string []), .lit (.bool false)], [], places) :=
  ⟨[], by kernel_rfl⟩
set_option maxRecDepth 100000 in
theorem lifted (os : Os) (started : os.Started) (H : Type) (enc : TypeId × Value → H) (F : Stop.Interp) :
    ReturnsInHanded {} Tryd.checked os 19 .any ((OpenSpec.ofChange Rows.tagEndsSpec).preRow enc Tryd.prog Tryd.f19 Rows.tagEndsRow.domain false Rows.tagEndsRow.laid) (((OpenSpec.ofChange Rows.tagEndsSpec).at F).post enc Tryd.prog Tryd.f19 false true false false) := by
  obtain ⟨places, hx⟩ := reads os enc
  refine returnsInHanded_of_row (C := Tryd.checked) (s := OpenSpec.ofChange Rows.tagEndsSpec) own started (by kernel_rfl) Tryd.func19
    (witness_row_atRef (enc := enc) (C := Tryd.checked) false (laidWorldE os) #[.string ⟨#[]⟩, .bool false] rfl (by kernel_rfl) (by kernel_rfl) (by kernel_rfl)
      (OpenSpec.preRow_of_cond 8 hx (by kernel_rfl) (fun k hk => by cases hk) (by kernel_rfl) (laid_met_two os _))) ?_
  intro W base args ds gs before hval hW _ _ _ hL hS _
  exact contract H enc W base args ds gs before hval hW hL hS
theorem facts : joinedFacts Tryd.prog 19 Tryd.f19 Rows.tagEndsSpec Rows.tagEndsRow = true := by
  unfold joinedFacts
  rw [may, lifts, make_cut]
  kernel_rfl
set_option maxRecDepth 100000 in
theorem said : Rows.TagEndsSaid :=
  OpenClaim.holds_of_cond 19 Tryd.f19 rfl rfl rfl rfl rfl rfl rfl ⟨rfl, rfl, rfl, rfl, rfl⟩ rfl rfl rfl rfl rfl (by kernel_rfl) Tryd.func19 facts
    (of_decide_eq_true (by kernel_rfl)) (by unfold Func.isWrapper; first | (rw [if_pos (by decide +kernel)]; kernel_rfl) | (rw [if_neg (by decide +kernel)]; exact ⟨rfl, rfl⟩))
    (fun os started H enc _ F => by rw [OpenClaim.pre_eq_preRow]; exact lifted os started H enc F)
theorem plain (f : FuncId) (fn : Func) (hf : Tryd.pinned.checked.prog.funcNamed "sigillary/sigillarylaw03.TagEnds" = some f) (hfn : Tryd.pinned.checked.prog.funcs[f]? = some fn) :
    true = Tryd.pinned.checked.prog.looks [] ∧ ∀ (j : Nat) t, fn.params[j]? = some t → Tryd.pinned.checked.prog.wantsStandIn t = false := by
  obtain rfl : f = 19 := Option.some.inj ((show Tryd.prog.funcNamed "sigillary/sigillarylaw03.TagEnds" = some 19 by kernel_rfl).symm.trans hf) |>.symm
  obtain rfl : fn = Tryd.f19 := (Option.some.inj (Tryd.func19.symm.trans hfn)).symm
  refine ⟨by kernel_rfl, fun j t ht => ?_⟩
  rw [Tryd.params19] at ht
  have hm : t = 9 ∨ t = 4 := by
    have := Array.mem_of_getElem? ht
    simpa using this
  rcases hm with rfl | rfl
  · exact (show Tryd.prog.wantsStandIn 9 = false by kernel_rfl)
  · exact (show Tryd.prog.wantsStandIn 4 = false by kernel_rfl)
/-- ████ THE CARD ████ -/
theorem card : Rows.TagEndsCardSaid :=
  Claim7.holds_tied_plain_at .later [] _ _ _ _ said (fun _ h => by cases h) (by kernel_rfl) (fun _ h => by cases h) tagEnds_row_tie rfl ⟨rfl, rfl⟩ main_is rfl plain (by kernel_rfl)
end Go.Proofs.YtfafidholldjlaaDoor.tagEnds
