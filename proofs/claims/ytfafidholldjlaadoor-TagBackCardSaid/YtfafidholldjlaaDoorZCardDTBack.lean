/- Proved: TagBack answers true for every input, never panics, and its input reads as it did; the one condition: the listed variables hold what the program's own text lays in them. -/
import Derived.Test.YtfafidholldjlaaDoorZP
import Derived.Test.YtfafidholldjlaaDoorZK
import Derived.Test.YtfafidholldjlaaDoorZC
/- The law TagBack. -/
set_option linter.unusedVariables false
set_option linter.unusedSimpArgs false
namespace Go.Proofs.YtfafidholldjlaaDoor
open Go.RowKit
set_option maxRecDepth 100000 in
set_option maxHeartbeats 1000000 in
theorem tback_law (s : ByteArray) (hs : s.size ≤ maxLen) {B : Nat} {aw ab : Addr} {w : World} (hG : DGlob B aw ab w) :
    Calls Tryd.prog 18 #[.string s] w fun e w' => e = .returned (.bool true) ∧ Below w.heap.size w w' := by
  have HG := Lib.hid hG
  have HS := Lib.hid hs
  have l0 := front_200 s
  clear hG hs
  go_enter Tryd.func18, Tryd.ntmps18
  go_wp2_with fail
  refine (tshown_any HG.out.glob).mono ?_
  rintro e w1 ⟨rfl, hb1⟩
  have HB1 := Lib.hid hb1
  clear hb1
  go_wp2_with fail
  refine (tcut_any s HS.out _).mono ?_
  rintro e w' ⟨rfl, rfl⟩
  obtain ⟨f, hf⟩ : ∃ x, front s 200 = x := ⟨_, rfl⟩
  rw [hf] at l0 ⊢
  clear hf HS
  have hX := hexText_size f _ (Nat.le_refl _)
  have hback := fun w => unhex_hex f (by omega) w
  have hhex := fun w => hex_any f (by omega) w
  have hx2 : ((hexText f f.size).size : Int) = 2 * (f.size : Int) := by omega
  obtain ⟨x, hx⟩ : ∃ x, hexText f f.size = x := ⟨_, rfl⟩
  rw [hx] at hback hhex hx2
  have HBACK := Lib.hid hback
  have HHEX := Lib.hid hhex
  have l1 : (f.size : Int) ≤ 200 := by omega
  clear hback hhex hX hx
  go_wp2_with fail
  refine (HHEX.out _).mono ?_
  rintro e w2 ⟨rfl, hb⟩
  have HB2 := Lib.hid (HB1.out.trans (hb.mono HB1.out.size))
  clear hb
  go_wp2_with fail
  refine (HBACK.out _).mono ?_
  rintro e w3 ⟨rfl, hb⟩
  have HB3 := Lib.hid (HB2.out.trans (hb.mono HB2.out.size))
  clear hb
  by_cases hok : hexOK f
  · have hg := fun w => unhex_good f (by omega) hok w
    have hu := hex_of_unhex f hok
    have hus : (unhexTo f (f.size / 2)).size ≤ 1000000 := by rw [unhexTo_size]; omega
    have hh := fun w => hex_any (unhexTo f (f.size / 2)) hus w
    rw [hu] at hh
    generalize unhexTo f (f.size / 2) = u at hg hh
    have HG1 := Lib.hid hg
    have HH1 := Lib.hid hh
    clear hg hh hu hus hok
    go_wp2_with fail
    refine (HG1.out _).mono ?_
    rintro e w4 ⟨rfl, hb⟩
    have HB4 := Lib.hid (HB3.out.trans (hb.mono HB3.out.size))
    clear hb
    go_wp2_with fail
    refine (HHEX.out _).mono ?_
    rintro e w5 ⟨rfl, hb⟩
    have HB5 := Lib.hid (HB4.out.trans (hb.mono HB4.out.size))
    clear hb
    go_wp2_with fail
    refine (HH1.out _).mono ?_
    rintro e w6 ⟨rfl, hb⟩
    have HB6 := Lib.hid (HB5.out.trans (hb.mono HB5.out.size))
    clear hb
    go_wp2_with fail
    go_ret
    exact ⟨rfl, HB6.out⟩
  · have hg := fun w => unhex_bad f (by omega) hok w
    have HG1 := Lib.hid hg
    clear hg hok
    go_wp2_with fail
    refine (HG1.out _).mono ?_
    rintro e w4 ⟨rfl, hb⟩
    have HB4 := Lib.hid (HB3.out.trans (hb.mono HB3.out.size))
    clear hb
    go_wp2_with fail
    refine (HHEX.out _).mono ?_
    rintro e w5 ⟨rfl, hb⟩
    have HB5 := Lib.hid (HB4.out.trans (hb.mono HB4.out.size))
    clear hb
    go_wp2_with fail
    go_ret
    exact ⟨rfl, HB5.out⟩
end Go.Proofs.YtfafidholldjlaaDoor
namespace Go.Proofs.YtfafidholldjlaaDoor.tagBack
open Go.ChangeShapes Go.WideShapes Go.ChangeAt Go.RowKit
set_option maxRecDepth 100000 in
set_option maxHeartbeats 1000000 in
theorem contract (H : Type) (enc : TypeId × Value → H) (W : World) (base : Nat) (args : Array Value) (ds gs : List (DataW H)) (before : List MemPlace)
    (hval : ∀ (j : Nat) t v, Tryd.f18.params[j]? = some t → args[j]? = some v → Value.okWide Tryd.prog W .any base t v)
    (hW : DataW.Whole enc Tryd.prog Tryd.f18.params.toList Rows.tagBackSpec.vars false W args.toList ds gs before) (hL : laidMetH Tryd.prog Rows.tagBackRow.laid W) (hS : W.ShapedOpen Tryd.prog) :
    Calls Tryd.prog 18 args W fun e W' => ∃ v, e = .returned v ∧ Rows.tagBackSpec.post enc Tryd.prog Tryd.f18 false true false false W args v W' := by
  have hW' := hW
  obtain ⟨p, q, hA0, hV, rfl, hfz, hnd⟩ := hW
  have hA : DataW.TrodAll enc Tryd.prog W 0 (fun _ => true) true Tryd.f18.params.toList args.toList ds p := hA0
  rw [Tryd.params18] at hA hval
  obtain ⟨v0, vs0, d0, ds0, p0, q0, hargs, rfl, rfl, h0, r0⟩ := trodAll_cons hA
  obtain ⟨rfl, rfl, rfl⟩ := trodAll_nil r0
  obtain rfl : args = #[v0] := by cases args; simp_all
  obtain ⟨rfl, rfl⟩ := trodVars_none hV
  obtain ⟨b0, rfl, rfl, rfl, hw0⟩ := Go.ChangeMaps.open_string Tryd.underlying9 (hval 0 9 v0 rfl rfl) h0
  clear hA0
  simp only [List.append_nil] at hW'
  obtain ⟨aw, ab, hG⟩ := dglob_of hS hL
  have walk := tback_law b0 hw0 hG
  refine walk.mono fun e W' ⟨he, hb⟩ => ?_
  subst he
  exact ⟨_, rfl, post_plain hW' (fun _ _ _ => trodAll_cons_mk (shut_bool Tryd.underlying4 _) trodAll_mk0) (fun _ => (trodAll_cons_mk (Go.ChangeMaps.shut_string Tryd.underlying9 hw0) trodAll_mk0)) (fun _ => rfl) hb (ok_one (by kernel_rfl) rfl (okWide_bool_mk Tryd.underlying4 _))⟩
theorem reads (os : Os) {H : Type} (enc : TypeId × Value → H) : ∃ places, DataW.whole enc Tryd.prog ((laidWorldE os).forCall (fun _ _ => 0) ⟨#[], #[.string ⟨#[]⟩], []⟩).memory Tryd.f18.params.toList Rows.tagBackSpec.vars false (#[.string ⟨#[]⟩] : Array Value).toList 8 = some ([.lit (.string [])], [], places) :=
  ⟨[], by kernel_rfl⟩
set_option maxRecDepth 100000 in
theorem lifted (os : Os) (started : os.Started) (H : Type) (enc : TypeId × Value → H) (F : Stop.Interp) :
    ReturnsInHanded {} Tryd.checked os 18 .any ((OpenSpec.ofChange Rows.tagBackSpec).preRow enc Tryd.prog Tryd.f18 Rows.tagBackRow.domain false Rows.tagBackRow.laid) (((OpenSpec.ofChange Rows.tagBackSpec).at F).post enc Tryd.prog Tryd.f18 false true false false) := by
  obtain ⟨places, hx⟩ := reads os enc
  refine returnsInHanded_of_row (C := Tryd.checked) (s := OpenSpec.ofChange Rows.tagBackSpec) own started (by kernel_rfl) Tryd.func18
    (witness_row_atRef (enc := enc) (C := Tryd.checked) false (laidWorldE os) #[.string ⟨#[]⟩] rfl (by kernel_rfl) (by kernel_rfl) (by kernel_rfl)
      (OpenSpec.preRow_of_cond 8 hx (by kernel_rfl) (fun k hk => by cases hk) (by kernel_rfl) (laid_met_two os _))) ?_
  intro W base args ds gs before hval hW _ _ _ hL hS _
  exact contract H enc W base args ds gs before hval hW hL hS
theorem facts : joinedFacts Tryd.prog 18 Tryd.f18 Rows.tagBackSpec Rows.tagBackRow = true := by
  unfold joinedFacts
  rw [may, lifts, make_cut]
  kernel_rfl
set_option maxRecDepth 100000 in
theorem said : Rows.TagBackSaid :=
  OpenClaim.holds_of_cond 18 Tryd.f18 rfl rfl rfl rfl rfl rfl rfl ⟨rfl, rfl, rfl, rfl, rfl⟩ rfl rfl rfl rfl rfl (by kernel_rfl) Tryd.func18 facts
    (of_decide_eq_true (by kernel_rfl)) (by unfold Func.isWrapper; first | (rw [if_pos (by decide +kernel)]; kernel_rfl) | (rw [if_neg (by decide +kernel)]; exact ⟨rfl, rfl⟩))
    (fun os started H enc _ F => by rw [OpenClaim.pre_eq_preRow]; exact lifted os started H enc F)
theorem plain (f : FuncId) (fn : Func) (hf : Tryd.pinned.checked.prog.funcNamed "sigillary/sigillarylaw03.TagBack" = some f) (hfn : Tryd.pinned.checked.prog.funcs[f]? = some fn) :
    true = Tryd.pinned.checked.prog.looks [] ∧ ∀ (j : Nat) t, fn.params[j]? = some t → Tryd.pinned.checked.prog.wantsStandIn t = false := by
  obtain rfl : f = 18 := Option.some.inj ((show Tryd.prog.funcNamed "sigillary/sigillarylaw03.TagBack" = some 18 by kernel_rfl).symm.trans hf) |>.symm
  obtain rfl : fn = Tryd.f18 := (Option.some.inj (Tryd.func18.symm.trans hfn)).symm
  refine ⟨by kernel_rfl, fun j t ht => ?_⟩
  rw [Tryd.params18] at ht
  have hm : t = 9 := by
    have := Array.mem_of_getElem? ht
    simpa using this
  obtain rfl := hm
  · exact (show Tryd.prog.wantsStandIn 9 = false by kernel_rfl)
/-- ████ THE CARD ████ -/
theorem card : Rows.TagBackCardSaid :=
  Claim7.holds_tied_plain_at .later [] _ _ _ _ said (fun _ h => by cases h) (by kernel_rfl) (fun _ h => by cases h) tagBack_row_tie rfl ⟨rfl, rfl⟩ main_is rfl plain (by kernel_rfl)
end Go.Proofs.YtfafidholldjlaaDoor.tagBack
