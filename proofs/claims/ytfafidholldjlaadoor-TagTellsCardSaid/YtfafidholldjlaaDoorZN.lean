/- The document's answer for a message's sum: it is the same. -/
import Derived.Test.YtfafidholldjlaaDoorZJ
import Derived.Test.YtfafidholldjlaaDoorZL
import Derived.Test.YtfafidholldjlaaDoorZF
import Derived.Test.YtfafidholldjlaaDoorZK
set_option linter.unusedVariables false
set_option linter.unusedSimpArgs false
namespace Go.Proofs.YtfafidholldjlaaDoor
open Go.RowKit
/-- The block at a place of a text. -/
theorem slice_block (a : ByteArray) (i j : Nat) (hj : j = i + 64) (h : j ≤ a.size) : (a.extract i j).size = 64 ∧ ∀ t, t < 64 → byteAt (a.extract i j) t = Sha.byteOf a.data.toList (i + t) := by
  subst hj
  refine ⟨by rw [ByteArray.size_extract]; omega, fun t ht => ?_⟩
  unfold byteAt Sha.byteOf
  rw [List.getD_eq_getElem?_getD, List.getD_eq_getElem?_getD, ByteArray.data_extract, Array.toList_extract]
  simp only [List.extract_eq_take_drop, List.getElem?_take, List.getElem?_drop]
  rw [if_pos (by omega)]
set_option maxRecDepth 100000 in
theorem refSum_ok {w : World} (hK : RefK w) (h1 : 1 < w.heap.size) (s : ByteArray) (hs : s.size ≤ 100000) :
    Calls Tryd.prog 41 #[.string s] w fun e w' => e = .returned (.tuple #[.string (shaBytes s.data.toList), .int .i64 0]) ∧ Below w.heap.size w w' := by
  have HK := Lib.hid hK
  clear hK
  obtain ⟨bs, hbs⟩ : ∃ b, shaBytes s.data.toList = b := ⟨_, rfl⟩
  rw [hbs]
  have HBS := Lib.hid hbs
  clear hbs
  obtain ⟨en, hen⟩ : ∃ x, (⟨(Sha.endOf s.size).toArray⟩ : ByteArray) = x := ⟨_, rfl⟩
  have hes : en.size = 9 + Sha.zeros s.size := by rw [← hen]; show (Sha.endOf s.size).toArray.size = _; rw [List.size_toArray, Sha.endOf_length]
  have hz : Sha.zeros s.size ≤ 63 := by unfold Sha.zeros; omega
  have h64 : (s.size + en.size) % 64 = 0 := by rw [hes]; unfold Sha.zeros; omega
  have hl : (s ++ en).data.toList = s.data.toList ++ Sha.endOf s.data.toList.length := by rw [append_list, ← hen]; rfl
  have hlen : (s ++ en).size = s.size + en.size := ByteArray.size_append
  have la : (s.size : Int) ≤ 8388608 := by omega
  have lb : (en.size : Int) ≤ 8388608 := by omega
  have lc : s.size + en.size ≤ 9223372036854775807 := by omega
  have lb2 : en.size ≤ 72 := by omega
  have HEN := Lib.hid hen
  have HL := Lib.hid hl
  have H64 := Lib.hid h64
  clear hen hl h64 hz hes
  go_enter Tryd.func41, Tryd.ntmps41
  go_wp2_with fail
  refine (refEnd_ok s.size hs _).mono ?_
  rintro e w1 ⟨rfl, hb1⟩
  rw [HEN.out]
  have HB1 := Lib.hid hb1
  clear hb1
  go_wp2_with fail
  refine (ref_first _).mono ?_
  rintro e w2 ⟨rfl, hb2⟩
  have HB2 := Lib.hid (HB1.out.trans (hb2.mono HB1.out.size))
  clear hb2
  obtain ⟨all, hall⟩ : ∃ x, s ++ en = x := ⟨_, rfl⟩
  rw [hall] at HL hlen ⊢
  have h64 : all.size % 64 = 0 := by have := H64.out; omega
  have hal : all.size ≤ 200000 := by omega
  clear hall hlen H64 lb lc
  have h2 : 1 < w2.heap.size := Nat.lt_of_lt_of_le h1 HB2.out.size
  have HK2 := Lib.hid (HK.out.below h1 h1 HB2.out)
  go_wp2_with fail
  go_loopw [7] (fun i W => ∃ k : Nat, 64 * k ≤ all.size ∧ i = .int .i64 ((64 * k : Nat) : Int) ∧ W.heap[w2.heap.size]? = some (.cells (row64 (Sha.St.first.after all.data.toList k)) 23 (0, 0)) ∧ Below w2.heap.size w2 W) (fun i _ => all.size - (intOf i).toNat)
  case atStart => exact ⟨0, by omega, rfl, alloc_heap_at _ _ _ rfl, (Below.refl _ _).alloc (Nat.le_refl _) _⟩
  case round =>
    obtain ⟨k, hk, rfl, hrow, hbw⟩ := hrel
    have i2 : (all.size : Int) ≤ 200000 := by omega
    by_cases hlt : 64 * k < all.size
    · obtain ⟨j, hj⟩ : ∃ j, 64 * k = j := ⟨_, rfl⟩
      rw [hj]
      have i0 : (j : Int) < (all.size : Int) := by omega
      have i1 : (j : Int) + 64 ≤ (all.size : Int) := by omega
      obtain ⟨blk, hblk⟩ : ∃ x, all.extract j (j + 64) = x := ⟨_, rfl⟩
      have hsb := slice_block all j (j + 64) rfl (by omega)
      rw [hblk] at hsb
      have hsl : ∀ W, (Instr.slice 9 (.string all) (some (.int .i64 (j : Int))) (some (.int .i64 ((j : Int) + 64))) none).run Tryd.prog W = .ok (.string blk) W := by
        intro W
        have h := run_slice_string (P := Tryd.prog) W 9 all .i64 .i64 (j : Int) ((j : Int) + 64) Tryd.underlying9 (by omega) (by omega) (by omega)
        have e1 : ((j : Int)).toNat = j := by omega
        have e2 : ((j : Int) + 64).toNat = j + 64 := by omega
        rw [e1, e2, hblk] at h
        exact h
      have s1 : IntKind.i64.wrap ((j : Int) + 64) = (j : Int) + 64 := IntWalk.i64_in _ (by omega)
      have hTok := Sha.St.after_ok first_ok all.data.toList k
      have hT1 : Sha.St.first.after all.data.toList (k + 1) = (Sha.St.first.after all.data.toList k).compress (byteAt blk) := by
        refine Sha.St.compress_congr _ (fun t ht => ?_)
        rw [hsb.2 t ht, hj]
      obtain ⟨T, hT⟩ : ∃ T, Sha.St.first.after all.data.toList k = T := ⟨_, rfl⟩
      rw [hT] at hrow hTok hT1
      obtain ⟨U, hU⟩ : ∃ U, T.compress (byteAt blk) = U := ⟨_, rfl⟩
      have hcall := ref_compress_ok T hTok blk hsb.1
      rw [hU] at hT1 hcall
      have hbt : w2.heap.size < wr.heap.size := lt_of_heap hrow
      have h1w : 1 < wr.heap.size := by omega
      have hkr : RefK wr := HK2.out.below h2 h2 hbw
      unfold row64 at hrow hcall
      have y0 : wr.cell? ⟨w2.heap.size, 0, none⟩ = some (.int .i64 T.a) := cell_of hrow 0
      have y1 : wr.cell? ⟨w2.heap.size, 1, none⟩ = some (.int .i64 T.b) := cell_of hrow 1
      have y2 : wr.cell? ⟨w2.heap.size, 2, none⟩ = some (.int .i64 T.c) := cell_of hrow 2
      have y3 : wr.cell? ⟨w2.heap.size, 3, none⟩ = some (.int .i64 T.d) := cell_of hrow 3
      have y4 : wr.cell? ⟨w2.heap.size, 4, none⟩ = some (.int .i64 T.e) := cell_of hrow 4
      have y5 : wr.cell? ⟨w2.heap.size, 5, none⟩ = some (.int .i64 T.f) := cell_of hrow 5
      have y6 : wr.cell? ⟨w2.heap.size, 6, none⟩ = some (.int .i64 T.g) := cell_of hrow 6
      have y7 : wr.cell? ⟨w2.heap.size, 7, none⟩ = some (.int .i64 T.h) := cell_of hrow 7
      have HT1 := Lib.hid hT1
      have hcall2 : ∀ W, Below wr.heap.size wr W → Calls Tryd.prog 30 #[.agg #[.int .i64 T.a, .int .i64 T.b, .int .i64 T.c, .int .i64 T.d, .int .i64 T.e, .int .i64 T.f, .int .i64 T.g, .int .i64 T.h], .string blk] W fun e w9 => e = .returned (.tuple #[.agg #[.int .i64 U.a, .int .i64 U.b, .int .i64 U.c, .int .i64 U.d, .int .i64 U.e, .int .i64 U.f, .int .i64 U.g, .int .i64 U.h], .int .i64 0]) ∧ w9.heap[w2.heap.size]? = some (.cells #[.int .i64 T.a, .int .i64 T.b, .int .i64 T.c, .int .i64 T.d, .int .i64 T.e, .int .i64 T.f, .int .i64 T.g, .int .i64 T.h] 23 (0, 0)) ∧ Below w2.heap.size w2 w9 :=
        fun W hbW => (hcall W (hkr.below h1w h1w hbW) (Nat.lt_of_lt_of_le h1w hbW.size)).mono fun e w9 ⟨he, hb9⟩ => ⟨he, (hb9.block w2.heap.size (Nat.lt_of_lt_of_le hbt hbW.size)).trans ((hbW.block w2.heap.size hbt).trans hrow), hbw.trans ((hbW.mono (Nat.le_of_lt hbt)).trans (hb9.mono (Nat.le_trans (Nat.le_of_lt hbt) hbW.size)))⟩
      have HCL := Lib.hid hcall2
      clear hkr hT1 hrow hbw hcall hcall2 hT hU hTok hsb hblk
      go_wp2_with fail
      go_region_with (go_at_call 30; refine (HCL.out _ ((Below.refl _ _).drew)).mono ?_; rintro e w9 ⟨rfl, hc9, hb9⟩; have g0 := cell_of hc9 0; have f0 := frozen_of hc9 0; have g1 := cell_of hc9 1; have f1 := frozen_of hc9 1; have g2 := cell_of hc9 2; have f2 := frozen_of hc9 2; have g3 := cell_of hc9 3; have f3 := frozen_of hc9 3; have g4 := cell_of hc9 4; have f4 := frozen_of hc9 4; have g5 := cell_of hc9 5; have f5 := frozen_of hc9 5; have g6 := cell_of hc9 6; have f6 := frozen_of hc9 6; have g7 := cell_of hc9 7; have f7 := frozen_of hc9 7; have HC9 := Lib.hid hc9; have HB9 := Lib.hid hb9; clear hc9 hb9)
      all_goals
        clear g0 f0 g1 f1 g2 f2 g3 f3 g4 f4 g5 f5 g6 f6 g7 f7 y0 y1 y2 y3 y4 y5 y6 y7 hsl
        go_wp2_with fail
        go_roundw
        case rel =>
          refine ⟨k + 1, by omega, by go_num, ?_, ?_⟩
          · rw [HT1.out]
            exact store8 w9 w2.heap.size 23 _ _ _ _ _ _ _ _ (.int .i64 U.a) (.int .i64 U.b) (.int .i64 U.c) (.int .i64 U.d) (.int .i64 U.e) (.int .i64 U.f) (.int .i64 U.g) (.int .i64 U.h) HC9.out
          · exact below8 w9 w2.heap.size (.int .i64 U.a) (.int .i64 U.b) (.int .i64 U.c) (.int .i64 U.d) (.int .i64 U.e) (.int .i64 U.f) (.int .i64 U.g) (.int .i64 U.h) HB9.out (Nat.le_refl _)
        case measure => simp [intOf]; omega
    · have hk' : 64 * k = all.size := by omega
      have hk64 : k = all.size / 64 := by omega
      rw [hk']
      have hTok := Sha.St.after_ok first_ok all.data.toList k
      have hfin : (⟨(stBytes (Sha.St.first.after all.data.toList k)).toArray⟩ : ByteArray) = bs := by
        rw [← HBS.out]
        unfold shaBytes Sha.sumOf
        rw [← HL.out, hk64]
        rfl
      obtain ⟨T, hT⟩ : ∃ T, Sha.St.first.after all.data.toList k = T := ⟨_, rfl⟩
      rw [hT] at hrow hTok hfin
      unfold row64 at hrow
      have y0 : wr.cell? ⟨w2.heap.size, 0, none⟩ = some (.int .i64 T.a) := cell_of hrow 0
      have y1 : wr.cell? ⟨w2.heap.size, 1, none⟩ = some (.int .i64 T.b) := cell_of hrow 1
      have y2 : wr.cell? ⟨w2.heap.size, 2, none⟩ = some (.int .i64 T.c) := cell_of hrow 2
      have y3 : wr.cell? ⟨w2.heap.size, 3, none⟩ = some (.int .i64 T.d) := cell_of hrow 3
      have y4 : wr.cell? ⟨w2.heap.size, 4, none⟩ = some (.int .i64 T.e) := cell_of hrow 4
      have y5 : wr.cell? ⟨w2.heap.size, 5, none⟩ = some (.int .i64 T.f) := cell_of hrow 5
      have y6 : wr.cell? ⟨w2.heap.size, 6, none⟩ = some (.int .i64 T.g) := cell_of hrow 6
      have y7 : wr.cell? ⟨w2.heap.size, 7, none⟩ = some (.int .i64 T.h) := cell_of hrow 7
      have HBW := Lib.hid (HB2.out.trans (hbw.mono HB2.out.size))
      have HTOK := Lib.hid hTok
      clear hrow hbw hT hTok
      go_wp2_with fail
      refine (ref_bytes_ok T HTOK.out _).mono ?_
      rintro e w9 ⟨rfl, hb9⟩
      rw [hfin]
      have HB9 := Lib.hid (HBW.out.trans (hb9.mono HBW.out.size))
      clear hb9 y0 y1 y2 y3 y4 y5 y6 y7
      go_wp2_with fail
      exact bodyPost_ret (v := _) (by simp [results, Tryd.results41, go_sem]) rfl ⟨rfl, HB9.out⟩
end Go.Proofs.YtfafidholldjlaaDoor
/- What the rows lay that reach the document's answer, too: its constants besides. -/
set_option linter.unusedVariables false
set_option linter.unusedSimpArgs false
namespace Go.Proofs.YtfafidholldjlaaDoor
open Go.ChangeShapes Go.WideShapes Go.ChangeAt Go.RowKit
theorem dglobk_of {W : World} (hs : W.ShapedOpen Tryd.prog) (h : laidMetH Tryd.prog Rows.digestTellsRow.laid W) : ∃ aw ab, DGlob W.heap.size aw ab W ∧ RefK W := by
  have f1 : (Rows.digestTellsRow.laid.filter fun x => x.2.handleName?.isSome) = [("errors.errorType", Rows.laid_errors_errorType)] := by rfl
  have f2 : (Rows.digestTellsRow.laid.filter fun x => x.2.handleName?.isNone) = [("sigillary/sigillaryref01.k", Rows.laid_sigillary_sigillaryref01_k), ("sigillary/rounds.errBlock", Rows.laid_sigillary_rounds_errBlock), ("sigillary/rounds.errWord", Rows.laid_sigillary_rounds_errWord), ("sigillary/rounds.constants", Rows.laid_sigillary_rounds_constants)] := by rfl
  unfold laidMetH at h
  rw [f1, f2] at h
  have h' := h
  obtain ⟨aw, ab, hg⟩ := glob_of hs h'.1.tail
  refine ⟨aw, ab, ⟨hg, ?_⟩, refk_of h'.1⟩
  obtain ⟨name, u, ty, e1, e2, e3, e4, e5⟩ := h'.2 _ (List.mem_cons_self ..)
  have en : name = [101, 114, 114, 111, 114] := (Option.some.inj e1).symm
  subst en
  obtain rfl := Option.some.inj (rtypeT.symm.trans e2)
  have hm : ty ∈ (List.range 203).filter fun t => Tryd.prog.rowNamed t [101, 114, 114, 111, 114] := List.mem_filter.2 ⟨List.mem_range.2 (by rw [← typesN]; exact e3), e4⟩
  rw [oneError] at hm
  obtain rfl := List.mem_singleton.1 hm
  have hh : typeHandle Tryd.prog 67 = .pointer (some ⟨6, 67, none⟩) := by kernel_rfl
  rw [hh] at e5
  simpa using World.var?_cell g4 e5 0
theorem laid_met_tells (os : Os) (args : Array Value) : laidMetH Tryd.prog Rows.digestTellsRow.laid ((laidWorldE os).forCall (fun _ _ => 0) ⟨#[], args, []⟩).memory :=
  laidMetH_of_parts (laidMet_of_run' 8 (by kernel_rfl) (by kernel_rfl)) (by kernel_rfl)
end Go.Proofs.YtfafidholldjlaaDoor
