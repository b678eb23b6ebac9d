/- Proved: LinesTells answers true for every input, never panics, and its input reads as it did; the one condition: the listed variables hold what the program's own text lays in them. -/
import Derived.Test.YtofikmdfiimbbaaDoorL19
import Derived.Test.YtofikmdfiimbbaaDoorL29
import Derived.Test.YtofikmdfiimbbaaDoorL30
import Derived.Test.YtofikmdfiimbbaaDoorCb2
import Derived.Test.YtofikmdfiimbbaaDoorCb3
import Derived.Test.YtofikmdfiimbbaaDoorCb9
set_option linter.unusedVariables false
set_option linter.unusedSimpArgs false
namespace Go.Proofs.YtofikmdfiimbbaaDoor
open Go.RowKit
theorem split13_at (s : ByteArray) (hs : s.size ≤ 100000) (ls : List Ln.Line) (no er : Int) (h : Ln.split s.data.toList = (ls, no, er)) (w : World) : Calls Tryd.prog 13 #[.string s] w fun e w' =>
    (∃ at0 g cap, e = .returned (.tuple #[.slice at0 ls.length cap, .int .i64 no, .int .i64 er]) ∧ LA w' at0 g 0 ls) ∧ Below w.heap.size w w' := by
  refine (split13_any s hs w).mono ?_
  rintro e w' ⟨⟨v, he, hv⟩, hb⟩
  rw [h] at he hv
  obtain ⟨at0, g, cap, rfl, hla⟩ := lines_LA hv
  exact ⟨⟨at0, g, cap, he, hla⟩, hb⟩
theorem join15_at (ls : List Ln.Line) (n : Nat) (hn : ls.length = n) (hn2 : n ≤ 100000) (hz : ∀ x ∈ ls, x.s.length ≤ 100000) (U : ByteArray) (h : Int) (hU : (⟨(Ln.join ls).1.toArray⟩ : ByteArray) = U) (hh : (Ln.join ls).2 = h) (at0 : Option Addr) (g o cap : Nat) (w : World) (hL : LA w at0 g o ls) :
    Calls Tryd.prog 15 #[.slice at0 n cap] w fun e w' => e = .returned (.tuple #[.string U, .int .i64 h]) ∧ Below w.heap.size w w' := by
  have := join15_any ls at0 g o n cap hn hn2 hz w hL
  rw [hU, hh] at this
  exact this
set_option maxRecDepth 100000 in
set_option maxHeartbeats 4000000 in
theorem tells_law (s : ByteArray) (hs : s.size ≤ maxLen) (ls : List Ln.Line) (at0 : Option Addr) (len cap : Nat) {w : World} (hG : Glob w) (hlen : ls.length = len ∧ len ≤ maxLen) (hz : ∀ x ∈ ls, x.s.length ≤ maxLen) (hL : ∃ g o, LA w at0 g o ls) :
    Calls Tryd.prog 3 #[.string s, .slice at0 len cap] w fun e w' => e = .returned (.bool true) ∧ Below w.heap.size w w' := by
  obtain ⟨g0, o0, hL⟩ := hL
  have hs0 : s.size ≤ 9223372036854775807 := by unfold maxLen at hs; omega
  have HCZ := cutB_size s
  obtain ⟨C, hC⟩ : ∃ C, cutB s = C := ⟨_, rfl⟩
  have hcut := fun w => cut_any s hs0 w
  rw [hC] at hcut HCZ
  have hfew := fun w hL => few_any ls at0 g0 o0 len cap hlen.1 hlen.2 hz w hL
  obtain ⟨F, hF⟩ : ∃ F, fewL ls = F := ⟨_, rfl⟩
  have hFs := fewL_s ls
  have hFn := fewL_len ls
  rw [hF] at hFs hFn hfew
  obtain ⟨NF, hNF⟩ : ∃ x, F.length = x := ⟨_, rfl⟩
  have zF : NF ≤ 40 := by omega
  obtain ⟨T, hT⟩ : ∃ T : ByteArray, (⟨(Ln.join F).1.toArray⟩ : ByteArray) = T := ⟨_, rfl⟩
  obtain ⟨eT, heT⟩ : ∃ x, (Ln.join F).2 = x := ⟨_, rfl⟩
  have cF := fun a g o c w hG hL => join_at F NF hNF (by omega) (fun x hx => Nat.le_trans (hFs x hx) (by decide)) T eT hT heT a g o c w hG hL
  have cF2 := fun a g o c w hL => join15_at F NF hNF (by omega) (fun x hx => Nat.le_trans (hFs x hx) (by decide)) T eT hT heT a g o c w hL
  obtain ⟨la, hla⟩ : ∃ x, (Ln.split C.data.toList).1 = x := ⟨_, rfl⟩
  obtain ⟨na, hna⟩ : ∃ x, (Ln.split C.data.toList).2.1 = x := ⟨_, rfl⟩
  obtain ⟨ea, hea⟩ : ∃ x, (Ln.split C.data.toList).2.2 = x := ⟨_, rfl⟩
  have sa : Ln.split C.data.toList = (la, na, ea) := by rw [← hla, ← hna, ← hea]
  obtain ⟨NA, hNA⟩ : ∃ x, la.length = x := ⟨_, rfl⟩
  have zA : NA ≤ 8001 := by rw [← hNA, ← hla]; have := mem_len C.data.toList; rw [text_size] at this; omega
  have cC := fun w hG => split_at2 C (by omega) la na ea sa w hG
  have cC2 := fun w => split13_at C (by omega) la na ea sa w
  rw [hNA] at cC
  simp only [hNA] at cC2
  have cS := fun a0 b0 ga gb ca cb w hA hB => same_any la la a0 b0 ga 0 gb 0 NA NA ca cb hNA hNA (by omega) w hA hB
  simp only [decide_true] at cS
  have HG := Lib.hid hG
  have HL := Lib.hid hL
  have HCUT := Lib.hid hcut
  have HFEW := Lib.hid hfew
  have CF := Lib.hid cF
  have CF2 := Lib.hid cF2
  have CC := Lib.hid cC
  have CC2 := Lib.hid cC2
  have CS := Lib.hid cS
  have HNF := Lib.hid hNF
  clear hG hL hcut hfew cF cF2 cC cC2 cS hNF hNA hC hF hFs hFn hT heT hla hna hea sa hz hlen
  go_enter Tryd.func3, Tryd.ntmps3
  go_wp2_with fail
  refine (shown_any w HG.out).mono ?_
  rintro e w1 ⟨rfl, hb1⟩
  have G1 := Lib.hid (HG.out.step hb1)
  have B1 := Lib.hid hb1
  have L1 := Lib.hid (HL.out.keep hb1)
  clear hb1
  go_wp2_with fail
  refine (HCUT.out w1).mono ?_
  rintro e w1' ⟨rfl, hcw⟩
  obtain rfl := hcw.symm
  go_wp2_with fail
  refine (HFEW.out _ L1.out).mono ?_
  rintro e w2 ⟨⟨v2, rfl, hv2⟩, hb2⟩
  obtain ⟨a2, g2, c2, rfl, hl2⟩ := lines_LA hv2
  rw [HNF.out]
  have B2 := Lib.hid (B1.out.trans (hb2.mono B1.out.size))
  have G2 := Lib.hid (G1.out.step hb2)
  have L2 := Lib.hid hl2
  clear hb2 hv2 hl2
  go_wp2_with fail
  refine (CC.out w2 G2.out).mono ?_
  rintro e w3 ⟨⟨a3, g3, c3, rfl, hl3⟩, hb3⟩
  have B3 := Lib.hid (B2.out.trans (hb3.mono B2.out.size))
  have G3 := Lib.hid (G2.out.step hb3)
  have L3 := Lib.hid (L2.out.keep hb3)
  have M3 := Lib.hid hl3
  clear hb3 hl3 L2
  go_wp2_with fail
  refine (CC2.out w3).mono ?_
  rintro e w4 ⟨⟨a4, g4, c4, rfl, hl4⟩, hb4⟩
  have B4 := Lib.hid (B3.out.trans (hb4.mono B3.out.size))
  have G4 := Lib.hid (G3.out.step hb4)
  have L4 := Lib.hid (L3.out.keep hb4)
  have M4 := Lib.hid (M3.out.keep hb4)
  have N4 := Lib.hid hl4
  clear hb4 hl4 L3 M3
  go_wp2_with fail
  refine (CF.out a2 g2 0 c2 w4 G4.out L4.out).mono ?_
  rintro e w5 ⟨rfl, hb5⟩
  have B5 := Lib.hid (B4.out.trans (hb5.mono B4.out.size))
  have L5 := Lib.hid (L4.out.keep hb5)
  have M5 := Lib.hid (M4.out.keep hb5)
  have N5 := Lib.hid (N4.out.keep hb5)
  clear hb5 L4 M4 N4
  go_wp2_with fail
  refine (CF2.out a2 g2 0 c2 w5 L5.out).mono ?_
  rintro e w6 ⟨rfl, hb6⟩
  have B6 := Lib.hid (B5.out.trans (hb6.mono B5.out.size))
  have M6 := Lib.hid (M5.out.keep hb6)
  have N6 := Lib.hid (N5.out.keep hb6)
  clear hb6 L5 M5 N5
  go_wp2_with fail
  refine (CS.out a3 a4 g3 g4 c3 c4 w6 M6.out N6.out).mono ?_
  rintro e w7 ⟨rfl, mm, rfl⟩
  go_wp2_with fail
  go_ret
  exact ⟨rfl, Below.drewN' B6.out mm⟩
end Go.Proofs.YtofikmdfiimbbaaDoor
namespace Go.Proofs.YtofikmdfiimbbaaDoor.linesTells
open Go.ChangeShapes Go.WideShapes Go.ChangeAt Go.RowKit
set_option maxRecDepth 100000 in
set_option maxHeartbeats 1000000 in
theorem contract (H : Type) (enc : TypeId × Value → H) (W : World) (base : Nat) (args : Array Value) (ds gs : List (DataW H)) (before : List MemPlace)
    (hval : ∀ (j : Nat) t v, Tryd.f3.params[j]? = some t → args[j]? = some v → Value.okWide Tryd.prog W .any base t v)
    (hW : DataW.Whole enc Tryd.prog Tryd.f3.params.toList Rows.linesTellsSpec.vars false W args.toList ds gs before) (hL : laidMetH Tryd.prog Rows.linesTellsRow.laid W) (hS : W.ShapedOpen Tryd.prog) :
    Calls Tryd.prog 3 args W fun e W' => ∃ v, e = .returned v ∧ Rows.linesTellsSpec.post enc Tryd.prog Tryd.f3 false true false false W args v W' := by
  have hW' := hW
  obtain ⟨p, q, hA0, hV, rfl, hfz, hnd⟩ := hW
  have hA : DataW.TrodAll enc Tryd.prog W 0 (fun _ => true) true Tryd.f3.params.toList args.toList ds p := hA0
  rw [Tryd.params3] at hA hval
  obtain ⟨v0, vs0, d0, ds0, p0, q0, hargs, rfl, rfl, h0, r0⟩ := trodAll_cons hA
  obtain ⟨v1, vs1, d1, ds1, p1, q1, rfl, rfl, rfl, h1, r1⟩ := trodAll_cons r0
  obtain ⟨rfl, rfl, rfl⟩ := trodAll_nil r1
  obtain rfl : args = #[v0, v1] := by cases args; simp_all
  obtain ⟨rfl, rfl⟩ := trodVars_none hV
  obtain ⟨b0, rfl, rfl, rfl, hw0⟩ := Go.ChangeMaps.open_string Tryd.underlying9 (hval 0 9 v0 rfl rfl) h0
  obtain ⟨a1, len1, cap1, rfl⟩ := okWide_slice Tryd.underlying22 (hval 1 22 v1 rfl rfl)
  obtain ⟨fuel1, hf1⟩ := h1
  obtain ⟨l1, hlen1, hz1, hla1⟩ := open_lines hf1
  clear hA0
  simp only [List.append_nil] at hW'
  have hG := glob_of hS hL
  have walk := tells_law b0 hw0 l1 a1 len1 cap1 hG hlen1 hz1 hla1
  refine walk.mono fun e W' ⟨he, hb⟩ => ?_
  subst he
  exact ⟨_, rfl, post_below_any (P := Tryd.prog) prog_kids prog_full (by rw [Tryd.params3, typesN]; decide) rfl hW' (fun _ _ _ => trodAll_cons_mk (shut_bool Tryd.underlying4 _) trodAll_mk0) rfl rfl hb (ok_one (by kernel_rfl) rfl (okWide_bool_mk Tryd.underlying4 _))⟩
theorem reads (os : Os) {H : Type} (enc : TypeId × Value → H) : ∃ places, DataW.whole enc Tryd.prog ((laidWorld os).forCall (fun _ _ => 0) ⟨#[], #[.string ⟨#[]⟩, .slice none 0 0], []⟩).memory Tryd.f3.params.toList Rows.linesTellsSpec.vars false (#[.string ⟨#[]⟩, .slice none 0 0] : Array Value).toList 8 = some ([.lit (.string []), .nil], [], places) :=
  ⟨[], by kernel_rfl⟩
set_option maxRecDepth 100000 in
theorem lifted (os : Os) (started : os.Started) (H : Type) (enc : TypeId × Value → H) (F : Stop.Interp) :
    ReturnsInHanded {} Tryd.checked os 3 .any ((OpenSpec.ofChange Rows.linesTellsSpec).preRow enc Tryd.prog Tryd.f3 Rows.linesTellsRow.domain false Rows.linesTellsRow.laid) (((OpenSpec.ofChange Rows.linesTellsSpec).at F).post enc Tryd.prog Tryd.f3 false true false false) := by
  obtain ⟨places, hx⟩ := reads os enc
  refine returnsInHanded_of_row (C := Tryd.checked) (s := OpenSpec.ofChange Rows.linesTellsSpec) own started (by kernel_rfl) Tryd.func3
    (witness_row_atRef (enc := enc) (C := Tryd.checked) false (laidWorld os) #[.string ⟨#[]⟩, .slice none 0 0] rfl (by kernel_rfl) (by kernel_rfl) (by kernel_rfl)
      (OpenSpec.preRow_of_cond 8 hx (by kernel_rfl) (fun k hk => by cases hk) (by kernel_rfl) (laid_met os _))) ?_
  intro W base args ds gs before hval hW _ _ _ hL hS _
  exact contract H enc W base args ds gs before hval hW hL hS
theorem facts : joinedFacts Tryd.prog 3 Tryd.f3 Rows.linesTellsSpec Rows.linesTellsRow = true := by
  unfold joinedFacts
  rw [may, lifts, make_cut]
  kernel_rfl
set_option maxRecDepth 100000 in
theorem said : Rows.LinesTellsSaid :=
  OpenClaim.holds_of_cond 3 Tryd.f3 rfl rfl rfl rfl rfl rfl rfl ⟨rfl, rfl, rfl, rfl, rfl⟩ rfl rfl rfl rfl rfl (by kernel_rfl) Tryd.func3 facts
    (of_decide_eq_true (by kernel_rfl)) (by unfold Func.isWrapper; first | (rw [if_pos (by decide +kernel)]; kernel_rfl) | (rw [if_neg (by decide +kernel)]; exact ⟨rfl, rfl⟩))
    (fun os started H enc _ F => by rw [OpenClaim.pre_eq_preRow]; exact lifted os started H enc F)
theorem plain (f : FuncId) (fn : Func) (hf : Tryd.pinned.checked.prog.funcNamed "sigillary/sigillarylaw14.LinesTells" = some f) (hfn : Tryd.pinned.checked.prog.funcs[f]? = some fn) :
    true = Tryd.pinned.checked.prog.looks [] ∧ ∀ (j : Nat) t, fn.params[j]? = some t → Tryd.pinned.checked.prog.wantsStandIn t = false := by
  obtain rfl : f = 3 := Option.some.inj ((show Tryd.prog.funcNamed "sigillary/sigillarylaw14.LinesTells" = some 3 by kernel_rfl).symm.trans hf) |>.symm
  obtain rfl : fn = Tryd.f3 := (Option.some.inj (Tryd.func3.symm.trans hfn)).symm
  refine ⟨by kernel_rfl, fun j t ht => ?_⟩
  rw [Tryd.params3] at ht
  have hm : t = 9 ∨ t = 22 := by
    have := Array.mem_of_getElem? ht
    simpa using this
  rcases hm with rfl | rfl
  · exact (show Tryd.prog.wantsStandIn 9 = false by kernel_rfl)
  · exact (show Tryd.prog.wantsStandIn 22 = false by kernel_rfl)
/-- ████ THE CARD ████ -/
theorem card : Rows.LinesTellsCardSaid :=
  Claim7.holds_tied_plain_at .later [] _ _ _ _ said (fun _ h => by cases h) (by kernel_rfl) (fun _ h => by cases h) linesTells_row_tie rfl ⟨rfl, rfl⟩ main_is rfl plain (by kernel_rfl)
end Go.Proofs.YtofikmdfiimbbaaDoor.linesTells
