/- Proved: DigestTells answers true for every input, never panics, and its input reads as it did; the one condition: the listed variables hold what the program's own text lays in them. -/
import Derived.Test.YtfafidholldjlaaDoorZN
import Derived.Test.YtfafidholldjlaaDoorZK
import Derived.Test.YtfafidholldjlaaDoorZC
/- The law DigestTells: what a call of it answers, for every number and text. -/
set_option linter.unusedVariables false
set_option linter.unusedSimpArgs false
namespace Go.Proofs.YtfafidholldjlaaDoor
open Go.RowKit
set_option maxRecDepth 100000 in
theorem dtells_of (n : Int) (r : ByteArray) (er : Int) (s : ByteArray) (hs : s.size ≤ maxLen) {B : Nat} {aw ab : Addr} {w : World} (hG : DGlob B aw ab w) (hK : RefK w)
    (h38 : ∀ W, DGlob B aw ab W → Calls Tryd.prog 38 #[.int .i64 n] W fun e W' => e = .returned (.tuple #[.string r, .int .i64 er]) ∧ Below W.heap.size W W')
    (h39 : ∀ W, Calls Tryd.prog 39 #[.int .i64 n] W fun e W' => e = .returned (.tuple #[.string r, .int .i64 er]) ∧ Below W.heap.size W W') :
    Calls Tryd.prog 9 #[.int .i64 n, .string s] w fun e w' => e = .returned (.bool true) ∧ Below w.heap.size w w' := by
  have HG := Lib.hid hG
  have HK := Lib.hid hK
  have H38 := Lib.hid h38
  have H39 := Lib.hid h39
  have HS := Lib.hid hs
  have l0 := front_300 s
  have h1 : 1 < w.heap.size := by have := hG.four; omega
  clear hG hK h38 h39 hs
  go_enter Tryd.func9, Tryd.ntmps9
  go_wp2_with fail
  refine (dshown_any HG.out).mono ?_
  rintro e w1 ⟨rfl, hb1⟩
  have HB1 := Lib.hid hb1
  clear hb1
  go_wp2_with fail
  refine (dcut_any s HS.out _).mono ?_
  rintro e w' ⟨rfl, rfl⟩
  obtain ⟨fs, hfs⟩ : ∃ x, front s 300 = x := ⟨_, rfl⟩
  rw [hfs] at l0 ⊢
  clear hfs HS
  go_wp2_with fail
  refine (H38.out _ (HG.out.below (HB1.out.mono HG.out.glob.size))).mono ?_
  rintro e w2 ⟨rfl, hb2⟩
  have HB2 := Lib.hid (HB1.out.trans (hb2.mono HB1.out.size))
  clear hb2
  go_wp2_with fail
  refine (H39.out _).mono ?_
  rintro e w3 ⟨rfl, hb3⟩
  have HB3 := Lib.hid (HB2.out.trans (hb3.mono HB2.out.size))
  clear hb3
  go_wp2_with fail
  obtain ⟨sx, hsx⟩ : ∃ x, shaBytes fs.data.toList = x := ⟨_, rfl⟩
  have HSX := Lib.hid hsx
  clear hsx
  refine (dsum_ok (HG.out.glob.below (HB3.out.mono HG.out.glob.size)) fs (by omega)).mono ?_
  rintro e w4 ⟨rfl, hb4⟩
  rw [HSX.out]
  have HB4 := Lib.hid (HB3.out.trans (hb4.mono HB3.out.size))
  clear hb4
  have h4 : 1 < w4.heap.size := Nat.lt_of_lt_of_le h1 HB4.out.size
  go_wp2_with fail
  refine (refSum_ok (HK.out.below h1 h1 HB4.out) h4 fs (by omega)).mono ?_
  rintro e w5 ⟨rfl, hb5⟩
  rw [HSX.out]
  have HB5 := Lib.hid (HB4.out.trans (hb5.mono HB4.out.size))
  clear hb5
  go_wp2_with fail
  go_ret
  exact ⟨rfl, HB5.out⟩
/-- EVERY NUMBER, EVERY TEXT. -/
theorem dtells_law (n : Int) (s : ByteArray) (hs : s.size ≤ maxLen) {B : Nat} {aw ab : Addr} {w : World} (hG : DGlob B aw ab w) (hK : RefK w) :
    Calls Tryd.prog 9 #[.int .i64 n, .string s] w fun e w' => e = .returned (.bool true) ∧ Below w.heap.size w w' := by
  by_cases h : n < 0 ∨ 100000 < n
  · exact dtells_of n _ _ s hs hG hK (fun W hW => endBad_any n h W hW.et hW.four) (fun W => (refEnd_bad n h W).mono (by rintro e W' ⟨he, rfl⟩; exact ⟨he, Below.refl _ _⟩))
  · obtain ⟨k, rfl⟩ : ∃ k : Nat, n = (k : Int) := ⟨n.toNat, by omega⟩
    exact dtells_of _ _ _ s hs hG hK (fun W _ => endOk_any k (by omega) W) (fun W => refEnd_ok k (by omega) W)
end Go.Proofs.YtfafidholldjlaaDoor
namespace Go.Proofs.YtfafidholldjlaaDoor.digestTells
open Go.ChangeShapes Go.WideShapes Go.ChangeAt Go.RowKit
set_option maxRecDepth 100000 in
set_option maxHeartbeats 1000000 in
theorem contract (H : Type) (enc : TypeId × Value → H) (W : World) (base : Nat) (args : Array Value) (ds gs : List (DataW H)) (before : List MemPlace)
    (hval : ∀ (j : Nat) t v, Tryd.f9.params[j]? = some t → args[j]? = some v → Value.okWide Tryd.prog W .any base t v)
    (hW : DataW.Whole enc Tryd.prog Tryd.f9.params.toList Rows.digestTellsSpec.vars false W args.toList ds gs before) (hL : laidMetH Tryd.prog Rows.digestTellsRow.laid W) (hS : W.ShapedOpen Tryd.prog) :
    Calls Tryd.prog 9 args W fun e W' => ∃ v, e = .returned v ∧ Rows.digestTellsSpec.post enc Tryd.prog Tryd.f9 false true false false W args v W' := by
  have hW' := hW
  obtain ⟨p, q, hA0, hV, rfl, hfz, hnd⟩ := hW
  have hA : DataW.TrodAll enc Tryd.prog W 0 (fun _ => true) true Tryd.f9.params.toList args.toList ds p := hA0
  rw [Tryd.params9] at hA hval
  obtain ⟨v0, vs0, d0, ds0, p0, q0, hargs, rfl, rfl, h0, r0⟩ := trodAll_cons hA
  obtain ⟨v1, vs1, d1, ds1, p1, q1, rfl, rfl, rfl, h1, r1⟩ := trodAll_cons r0
  obtain ⟨rfl, rfl, rfl⟩ := trodAll_nil r1
  obtain rfl : args = #[v0, v1] := by cases args; simp_all
  obtain ⟨rfl, rfl⟩ := trodVars_none hV
  obtain ⟨n0, rfl, rfl, rfl, hw0⟩ := open_int Tryd.underlying3 (hval 0 3 v0 rfl rfl) h0
  obtain ⟨b1, rfl, rfl, rfl, hw1⟩ := Go.ChangeMaps.open_string Tryd.underlying9 (hval 1 9 v1 rfl rfl) h1
  clear hA0
  simp only [List.append_nil] at hW'
  obtain ⟨aw, ab, hG, hK⟩ := dglobk_of hS hL
  have walk := dtells_law n0 b1  hw1 hG hK
  refine walk.mono fun e W' ⟨he, hb⟩ => ?_
  subst he
  exact ⟨_, rfl, post_plain hW' (fun _ _ _ => trodAll_cons_mk (shut_bool Tryd.underlying4 _) trodAll_mk0) (fun _ => (trodAll_cons_mk (shut_int Tryd.underlying3 hw0) (trodAll_cons_mk (Go.ChangeMaps.shut_string Tryd.underlying9 hw1) trodAll_mk0))) (fun _ => rfl) hb (ok_one (by kernel_rfl) rfl (okWide_bool_mk Tryd.underlying4 _))⟩
theorem reads (os : Os) {H : Type} (enc : TypeId × Value → H) : ∃ places, DataW.whole enc Tryd.prog ((laidWorldE os).forCall (fun _ _ => 0) ⟨#[], #[.int .i64 0, .string ⟨#[]⟩], []⟩).memory Tryd.f9.params.toList Rows.digestTellsSpec.vars false (#[.int .i64 0, .string ⟨#[]⟩] : Array Value).toList 8 = some ([.lit (.int .i64 0), .lit (.string [])], [], places) :=
  ⟨[], by kernel_rfl⟩
set_option maxRecDepth 100000 in
theorem lifted (os : Os) (started : os.Started) (H : Type) (enc : TypeId × Value → H) (F : Stop.Interp) :
    ReturnsInHanded {} Tryd.checked os 9 .any ((OpenSpec.ofChange Rows.digestTellsSpec).preRow enc Tryd.prog Tryd.f9 Rows.digestTellsRow.domain false Rows.digestTellsRow.laid) (((OpenSpec.ofChange Rows.digestTellsSpec).at F).post enc Tryd.prog Tryd.f9 false true false false) := by
  obtain ⟨places, hx⟩ := reads os enc
  refine returnsInHanded_of_row (C := Tryd.checked) (s := OpenSpec.ofChange Rows.digestTellsSpec) own started (by kernel_rfl) Tryd.func9
    (witness_row_atRef (enc := enc) (C := Tryd.checked) false (laidWorldE os) #[.int .i64 0, .string ⟨#[]⟩] rfl (by kernel_rfl) (by kernel_rfl) (by kernel_rfl)
      (OpenSpec.preRow_of_cond 8 hx (by kernel_rfl) (fun k hk => by cases hk) (by kernel_rfl) (laid_met_tells os _))) ?_
  intro W base args ds gs before hval hW _ _ _ hL hS _
  exact contract H enc W base args ds gs before hval hW hL hS
theorem facts : joinedFacts Tryd.prog 9 Tryd.f9 Rows.digestTellsSpec Rows.digestTellsRow = true := by
  unfold joinedFacts
  rw [may, lifts, make_cut]
  kernel_rfl
set_option maxRecDepth 100000 in
theorem said : Rows.DigestTellsSaid :=
  OpenClaim.holds_of_cond 9 Tryd.f9 rfl rfl rfl rfl rfl rfl rfl ⟨rfl, rfl, rfl, rfl, rfl⟩ rfl rfl rfl rfl rfl (by kernel_rfl) Tryd.func9 facts
    (of_decide_eq_true (by kernel_rfl)) (by unfold Func.isWrapper; first | (rw [if_pos (by decide +kernel)]; kernel_rfl) | (rw [if_neg (by decide +kernel)]; exact ⟨rfl, rfl⟩))
    (fun os started H enc _ F => by rw [OpenClaim.pre_eq_preRow]; exact lifted os started H enc F)
theorem plain (f : FuncId) (fn : Func) (hf : Tryd.pinned.checked.prog.funcNamed "sigillary/sigillarylaw02.DigestTells" = some f) (hfn : Tryd.pinned.checked.prog.funcs[f]? = some fn) :
    true = Tryd.pinned.checked.prog.looks [] ∧ ∀ (j : Nat) t, fn.params[j]? = some t → Tryd.pinned.checked.prog.wantsStandIn t = false := by
  obtain rfl : f = 9 := Option.some.inj ((show Tryd.prog.funcNamed "sigillary/sigillarylaw02.DigestTells" = some 9 by kernel_rfl).symm.trans hf) |>.symm
  obtain rfl : fn = Tryd.f9 := (Option.some.inj (Tryd.func9.symm.trans hfn)).symm
  refine ⟨by kernel_rfl, fun j t ht => ?_⟩
  rw [Tryd.params9] at ht
  have hm : t = 3 ∨ t = 9 := by
    have := Array.mem_of_getElem? ht
    simpa using this
  rcases hm with rfl | rfl
  · exact (show Tryd.prog.wantsStandIn 3 = false by kernel_rfl)
  · exact (show Tryd.prog.wantsStandIn 9 = false by kernel_rfl)
/-- ████ THE CARD ████ -/
theorem card : Rows.DigestTellsCardSaid :=
  Claim7.holds_tied_plain_at .later [] _ _ _ _ said (fun _ h => by cases h) (by kernel_rfl) (fun _ h => by cases h) digestTells_row_tie rfl ⟨rfl, rfl⟩ main_is rfl plain (by kernel_rfl)
end Go.Proofs.YtfafidholldjlaaDoor.digestTells
