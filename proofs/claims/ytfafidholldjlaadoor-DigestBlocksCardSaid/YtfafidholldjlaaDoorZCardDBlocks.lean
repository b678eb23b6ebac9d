/- Proved: DigestBlocks answers true for every input, never panics, and its input reads as it did; the one condition: the listed variables hold what the program's own text lays in them. -/
import Derived.Test.YtfafidholldjlaaDoorZN
import Derived.Test.YtfafidholldjlaaDoorZK
import Derived.Test.YtfafidholldjlaaDoorZC
/- The law DigestBlocks: what a call of it answers, for every text. -/
set_option linter.unusedVariables false
set_option linter.unusedSimpArgs false
namespace Go.Proofs.YtfafidholldjlaaDoor
open Go.RowKit
set_option maxRecDepth 100000 in
set_option maxHeartbeats 4000000 in
theorem blocks_law (s : ByteArray) (hs : s.size ≤ maxLen) {B : Nat} {aw ab : Addr} {w : World} (hG : DGlob B aw ab w) :
    Calls Tryd.prog 11 #[.string s] w fun e w' => e = .returned (.bool true) ∧ Below w.heap.size w w' := by
  have HG := Lib.hid hG
  have HS := Lib.hid hs
  have l0 := front_300 s
  clear hG hs
  go_enter Tryd.func11, Tryd.ntmps11
  go_wp2_with fail
  refine (dshown_any HG.out).mono ?_
  rintro e w1 ⟨rfl, hb1⟩
  have HB1 := Lib.hid hb1
  clear hb1
  go_wp2_with fail
  refine (dcut_any s HS.out _).mono ?_
  rintro e w' ⟨rfl, rfl⟩
  obtain ⟨fs, hfs⟩ : ∃ x, front s 300 = x := ⟨_, rfl⟩
  rw [hfs] at l0 ⊢
  clear hfs HS
  go_wp2_with fail
  refine (endOk_any fs.size (by omega) _).mono ?_
  rintro e w2 ⟨rfl, hb2⟩
  have HB2 := Lib.hid (HB1.out.trans (hb2.mono HB1.out.size))
  obtain ⟨en, hen⟩ : ∃ x, (⟨(Sha.endOf fs.size).toArray⟩ : ByteArray) = x := ⟨_, rfl⟩
  rw [hen]
  have hes : en.size = 9 + Sha.zeros fs.size := by rw [← hen]; show (Sha.endOf fs.size).toArray.size = _; rw [List.size_toArray, Sha.endOf_length]
  have hz : Sha.zeros fs.size ≤ 63 := by unfold Sha.zeros; omega
  have h64 : (fs.size + en.size) % 64 = 0 := by rw [hes]; unfold Sha.zeros; omega
  have hl : (fs ++ en).data.toList = fs.data.toList ++ Sha.endOf fs.data.toList.length := by rw [append_list, ← hen]; rfl
  have hlen : (fs ++ en).size = fs.size + en.size := ByteArray.size_append
  have la : (fs.size : Int) ≤ 8388608 := by omega
  have lb : (en.size : Int) ≤ 8388608 := by omega
  have lc : fs.size + en.size ≤ 9223372036854775807 := by omega
  have lb2 : en.size ≤ 72 := by omega
  have HL := Lib.hid hl
  have H64 := Lib.hid h64
  clear hen hl h64 hz hes hb2
  obtain ⟨sx, hsx⟩ : ∃ x, shaBytes fs.data.toList = x := ⟨_, rfl⟩
  have HSX := Lib.hid hsx
  clear hsx
  go_wp2_with fail
  refine (dsum_ok (HG.out.glob.below (HB2.out.mono HG.out.glob.size)) fs (by omega)).mono ?_
  rintro e w3 ⟨rfl, hb3⟩
  rw [HSX.out]
  have HB3 := Lib.hid (HB2.out.trans (hb3.mono HB2.out.size))
  clear hb3
  go_upto_region 6 with (fail)
  obtain ⟨all, hall⟩ : ∃ x, fs ++ en = x := ⟨_, rfl⟩
  rw [hall] at HL hlen ⊢
  have hal : all.size ≤ 400 := by omega
  have h64 : all.size % 64 = 0 := by have := H64.out; omega
  have h64' : (all.size : Int) % 64 = 0 := by omega
  clear hall hlen H64 lb lc la lb2
  go_wp2_with fail
  refine (first_any _).mono ?_
  rintro e w4 ⟨rfl, hb4⟩
  have HB4 := Lib.hid (HB3.out.trans (hb4.mono HB3.out.size))
  clear hb4
  go_wp2_with fail
  go_loopw [10] (fun i W => ∃ k : Nat, 64 * k ≤ all.size ∧ i = .int .i64 ((64 * k : Nat) : Int) ∧ W.heap[w4.heap.size]? = some (.cells (row64 (Sha.St.first.after all.data.toList k)) 23 (0, 0)) ∧ Below w4.heap.size w4 W) (fun i _ => all.size - (intOf i).toNat)
  case atStart => exact ⟨0, by omega, rfl, alloc_heap_at _ _ _ rfl, (Below.refl _ _).alloc (Nat.le_refl _) _⟩
  case round =>
    obtain ⟨k, hk, rfl, hrow, hbw⟩ := hrel
    have i2 : (all.size : Int) ≤ 400 := by omega
    by_cases hlt : 64 * k < all.size
    · obtain ⟨j, hj⟩ : ∃ j, 64 * k = j := ⟨_, rfl⟩
      rw [hj]
      have i0 : (j : Int) < (all.size : Int) := by omega
      have i1 : (j : Int) + 64 ≤ (all.size : Int) := by omega
      obtain ⟨blk, hblk⟩ : ∃ x, all.extract j (j + 64) = x := ⟨_, rfl⟩
      have hsb := slice_block all j (j + 64) rfl (by omega)
      rw [hblk] at hsb
      have hsl : ∀ W, (Instr.slice 9 (.string all) (some (.int .i64 (j : Int))) (some (.int .i64 ((j : Int) + 64))) none).run Tryd.prog W = .ok (.string blk) W := by
        intro W
        have h := run_slice_string (P := Tryd.prog) W 9 all .i64 .i64 (j : Int) ((j : Int) + 64) Tryd.underlying9 (by omega) (by omega) (by omega)
        have e1 : ((j : Int)).toNat = j := by omega
        have e2 : ((j : Int) + 64).toNat = j + 64 := by omega
        rw [e1, e2, hblk] at h
        exact h
      have s1 : IntKind.i64.wrap ((j : Int) + 64) = (j : Int) + 64 := IntWalk.i64_in _ (by omega)
      have hTok := Sha.St.after_ok first_ok all.data.toList k
      have hT1 : Sha.St.first.after all.data.toList (k + 1) = (Sha.St.first.after all.data.toList k).compress (byteAt blk) := by
        refine Sha.St.compress_congr _ (fun t ht => ?_)
        rw [hsb.2 t ht, hj]
      obtain ⟨T, hT⟩ : ∃ T, Sha.St.first.after all.data.toList k = T := ⟨_, rfl⟩
      rw [hT] at hrow hTok hT1
      obtain ⟨U, hU⟩ : ∃ U, T.compress (byteAt blk) = U := ⟨_, rfl⟩
      have hbt : w4.heap.size < wr.heap.size := lt_of_heap hrow
      have hgl : Glob B aw ab wr := HG.out.glob.below ((HB4.out.mono HG.out.glob.size).trans (hbw.mono (Nat.le_trans HG.out.glob.size HB4.out.size)))
      have hcall := fun W (hW : Glob B aw ab W) => compress_ok hW T hTok blk hsb.1
      rw [hU] at hT1 hcall
      unfold row64 at hrow hcall
      have y0 : wr.cell? ⟨w4.heap.size, 0, none⟩ = some (.int .i64 T.a) := cell_of hrow 0
      have y1 : wr.cell? ⟨w4.heap.size, 1, none⟩ = some (.int .i64 T.b) := cell_of hrow 1
      have y2 : wr.cell? ⟨w4.heap.size, 2, none⟩ = some (.int .i64 T.c) := cell_of hrow 2
      have y3 : wr.cell? ⟨w4.heap.size, 3, none⟩ = some (.int .i64 T.d) := cell_of hrow 3
      have y4 : wr.cell? ⟨w4.heap.size, 4, none⟩ = some (.int .i64 T.e) := cell_of hrow 4
      have y5 : wr.cell? ⟨w4.heap.size, 5, none⟩ = some (.int .i64 T.f) := cell_of hrow 5
      have y6 : wr.cell? ⟨w4.heap.size, 6, none⟩ = some (.int .i64 T.g) := cell_of hrow 6
      have y7 : wr.cell? ⟨w4.heap.size, 7, none⟩ = some (.int .i64 T.h) := cell_of hrow 7
      have HT1 := Lib.hid hT1
      have hcall2 : ∀ W, Below wr.heap.size wr W → Calls Tryd.prog 29 #[.agg #[.int .i64 T.a, .int .i64 T.b, .int .i64 T.c, .int .i64 T.d, .int .i64 T.e, .int .i64 T.f, .int .i64 T.g, .int .i64 T.h], .string blk] W fun e w9 => e = .returned (.tuple #[.agg #[.int .i64 U.a, .int .i64 U.b, .int .i64 U.c, .int .i64 U.d, .int .i64 U.e, .int .i64 U.f, .int .i64 U.g, .int .i64 U.h], .int .i64 0]) ∧ w9.heap[w4.heap.size]? = some (.cells #[.int .i64 T.a, .int .i64 T.b, .int .i64 T.c, .int .i64 T.d, .int .i64 T.e, .int .i64 T.f, .int .i64 T.g, .int .i64 T.h] 23 (0, 0)) ∧ Below w4.heap.size w4 w9 ∧ Below W.heap.size W w9 :=
        fun W hbW => (hcall W (hgl.below (hbW.mono hgl.size))).mono fun e w9 ⟨he, hb9⟩ => ⟨he, (hb9.block w4.heap.size (Nat.lt_of_lt_of_le hbt hbW.size)).trans ((hbW.block w4.heap.size hbt).trans hrow), hbw.trans ((hbW.mono (Nat.le_of_lt hbt)).trans (hb9.mono (Nat.le_trans (Nat.le_of_lt hbt) hbW.size))), hb9⟩
      have HCL := Lib.hid hcall2
      clear hgl hT1 hrow hbw hcall hcall2 hT hU hTok hsb hblk h64'
      go_upto_region 12 with (fail)
      go_cut [11, 12] from 48 to 57 (fun s1 s2 wx => ∃ p, s1 = .pointer (some ⟨p, 0, none⟩) ∧ s2 = .int .i64 0 ∧ w4.heap.size < p ∧ wx.heap[p]? = some (.cells #[.int .i64 U.a, .int .i64 U.b, .int .i64 U.c, .int .i64 U.d, .int .i64 U.e, .int .i64 U.f, .int .i64 U.g, .int .i64 U.h] 23 (0, 0)) ∧ wx.heap[w4.heap.size]? = some (.cells #[.int .i64 T.a, .int .i64 T.b, .int .i64 T.c, .int .i64 T.d, .int .i64 T.e, .int .i64 T.f, .int .i64 T.g, .int .i64 T.h] 23 (0, 0)) ∧ Below w4.heap.size w4 wx)
      case first =>
        go_region_with (first
        | (go_at_call 29; refine (HCL.out _ ((Below.refl _ _).drew)).mono ?_; rintro e w9 ⟨rfl, hc9, hb9, hx9⟩; have HC9 := Lib.hid hc9; have HB9 := Lib.hid hb9; have hl9 := lt_of_heap hc9; clear hc9 hb9 hx9)
        | (go_at_call 29; refine (HCL.out _ (((Below.refl _ _).alloc (Nat.le_refl _) _).drew)).mono ?_; rintro e w9 ⟨rfl, hc9, hb9, hx9⟩; have hz9 := (hx9.block wr.heap.size (by simp)).trans (alloc_heap_at _ _ _ rfl); have k0 := cell_of hz9 0; have m0 := frozen_of hz9 0; have k1 := cell_of hz9 1; have m1 := frozen_of hz9 1; have k2 := cell_of hz9 2; have m2 := frozen_of hz9 2; have k3 := cell_of hz9 3; have m3 := frozen_of hz9 3; have k4 := cell_of hz9 4; have m4 := frozen_of hz9 4; have k5 := cell_of hz9 5; have m5 := frozen_of hz9 5; have k6 := cell_of hz9 6; have m6 := frozen_of hz9 6; have k7 := cell_of hz9 7; have m7 := frozen_of hz9 7; have HC9 := Lib.hid hc9; have HB9 := Lib.hid hb9; have hl9 := lt_of_heap hc9; clear hc9 hb9 hx9))
        all_goals go_wp2_with fail
        all_goals go_meet
        all_goals first
          | (have hz' := hz9; exact ⟨wr.heap.size, rfl, rfl, hbt, store8 w9 _ 23 _ _ _ _ _ _ _ _ _ _ _ _ _ _ _ _ hz', (other8 w9 _ _ _ _ _ _ _ _ _ _ (Nat.ne_of_lt hbt)).trans HC9.out, below8 w9 _ _ _ _ _ _ _ _ _ HB9.out (Nat.le_of_lt hbt)⟩)
          | exact ⟨w9.heap.size, rfl, rfl, hl9, alloc_heap_at _ _ _ rfl, alloc_heap_old _ HC9.out, HB9.out.alloc HB9.out.size _⟩
      case rest =>
        obtain ⟨p, rfl, rfl, hp, hcp, hcx, hbc⟩ := hcut
        clear y0 y1 y2 y3 y4 y5 y6 y7 HCL hsl
        have y0 : wc.cell? ⟨p, 0, none⟩ = some (.int .i64 U.a) := cell_of hcp 0
        have y1 : wc.cell? ⟨p, 1, none⟩ = some (.int .i64 U.b) := cell_of hcp 1
        have y2 : wc.cell? ⟨p, 2, none⟩ = some (.int .i64 U.c) := cell_of hcp 2
        have y3 : wc.cell? ⟨p, 3, none⟩ = some (.int .i64 U.d) := cell_of hcp 3
        have y4 : wc.cell? ⟨p, 4, none⟩ = some (.int .i64 U.e) := cell_of hcp 4
        have y5 : wc.cell? ⟨p, 5, none⟩ = some (.int .i64 U.f) := cell_of hcp 5
        have y6 : wc.cell? ⟨p, 6, none⟩ = some (.int .i64 U.g) := cell_of hcp 6
        have y7 : wc.cell? ⟨p, 7, none⟩ = some (.int .i64 U.h) := cell_of hcp 7
        have z0 : wc.cell? ⟨w4.heap.size, 0, none⟩ = some (.int .i64 T.a) := cell_of hcx 0
        have z1 : wc.cell? ⟨w4.heap.size, 1, none⟩ = some (.int .i64 T.b) := cell_of hcx 1
        have z2 : wc.cell? ⟨w4.heap.size, 2, none⟩ = some (.int .i64 T.c) := cell_of hcx 2
        have z3 : wc.cell? ⟨w4.heap.size, 3, none⟩ = some (.int .i64 T.d) := cell_of hcx 3
        have z4 : wc.cell? ⟨w4.heap.size, 4, none⟩ = some (.int .i64 T.e) := cell_of hcx 4
        have z5 : wc.cell? ⟨w4.heap.size, 5, none⟩ = some (.int .i64 T.f) := cell_of hcx 5
        have z6 : wc.cell? ⟨w4.heap.size, 6, none⟩ = some (.int .i64 T.g) := cell_of hcx 6
        have z7 : wc.cell? ⟨w4.heap.size, 7, none⟩ = some (.int .i64 T.h) := cell_of hcx 7
        have f0 : wc.frozen? ⟨w4.heap.size, 0, none⟩ = false := frozen_of hcx 0
        have f1 : wc.frozen? ⟨w4.heap.size, 1, none⟩ = false := frozen_of hcx 1
        have f2 : wc.frozen? ⟨w4.heap.size, 2, none⟩ = false := frozen_of hcx 2
        have f3 : wc.frozen? ⟨w4.heap.size, 3, none⟩ = false := frozen_of hcx 3
        have f4 : wc.frozen? ⟨w4.heap.size, 4, none⟩ = false := frozen_of hcx 4
        have f5 : wc.frozen? ⟨w4.heap.size, 5, none⟩ = false := frozen_of hcx 5
        have f6 : wc.frozen? ⟨w4.heap.size, 6, none⟩ = false := frozen_of hcx 6
        have f7 : wc.frozen? ⟨w4.heap.size, 7, none⟩ = false := frozen_of hcx 7
        have HCX := Lib.hid hcx
        have HBC := Lib.hid hbc
        clear hcp hcx hbc
        go_wp2_with fail
        go_roundw
        case rel =>
          refine ⟨k + 1, by omega, by go_num, ?_, ?_⟩
          · rw [HT1.out]
            exact store8 wc w4.heap.size 23 _ _ _ _ _ _ _ _ (.int .i64 U.a) (.int .i64 U.b) (.int .i64 U.c) (.int .i64 U.d) (.int .i64 U.e) (.int .i64 U.f) (.int .i64 U.g) (.int .i64 U.h) HCX.out
          · exact below8 wc w4.heap.size (.int .i64 U.a) (.int .i64 U.b) (.int .i64 U.c) (.int .i64 U.d) (.int .i64 U.e) (.int .i64 U.f) (.int .i64 U.g) (.int .i64 U.h) HBC.out (Nat.le_refl _)
        case measure => simp [intOf]; omega
    · have hk' : 64 * k = all.size := by omega
      have hk64 : k = all.size / 64 := by omega
      rw [hk']
      have hTok := Sha.St.after_ok first_ok all.data.toList k
      have hfin : (⟨(stBytes (Sha.St.first.after all.data.toList k)).toArray⟩ : ByteArray) = sx := by
        rw [← HSX.out]
        unfold shaBytes Sha.sumOf
        rw [← HL.out, hk64]
        rfl
      obtain ⟨T, hT⟩ : ∃ T, Sha.St.first.after all.data.toList k = T := ⟨_, rfl⟩
      rw [hT] at hrow hTok hfin
      unfold row64 at hrow
      have y0 : wr.cell? ⟨w4.heap.size, 0, none⟩ = some (.int .i64 T.a) := cell_of hrow 0
      have y1 : wr.cell? ⟨w4.heap.size, 1, none⟩ = some (.int .i64 T.b) := cell_of hrow 1
      have y2 : wr.cell? ⟨w4.heap.size, 2, none⟩ = some (.int .i64 T.c) := cell_of hrow 2
      have y3 : wr.cell? ⟨w4.heap.size, 3, none⟩ = some (.int .i64 T.d) := cell_of hrow 3
      have y4 : wr.cell? ⟨w4.heap.size, 4, none⟩ = some (.int .i64 T.e) := cell_of hrow 4
      have y5 : wr.cell? ⟨w4.heap.size, 5, none⟩ = some (.int .i64 T.f) := cell_of hrow 5
      have y6 : wr.cell? ⟨w4.heap.size, 6, none⟩ = some (.int .i64 T.g) := cell_of hrow 6
      have y7 : wr.cell? ⟨w4.heap.size, 7, none⟩ = some (.int .i64 T.h) := cell_of hrow 7
      have HBW := Lib.hid (HB4.out.trans (hbw.mono HB4.out.size))
      have HTOK := Lib.hid hTok
      clear hrow hbw hT hTok
      have hge : ¬ ((all.size : Int) + 64 ≤ (all.size : Int)) := by omega
      go_wp2_with fail
      refine (bytes_ok T HTOK.out (HG.out.glob.below (HBW.out.mono HG.out.glob.size))).mono ?_
      rintro e w9 ⟨rfl, hb9⟩
      rw [hfin]
      have HB9 := Lib.hid (HBW.out.trans (hb9.mono HBW.out.size))
      clear hb9 y0 y1 y2 y3 y4 y5 y6 y7 hfin
      go_wp2_with fail
      go_ret
      exact ⟨rfl, HB9.out⟩
end Go.Proofs.YtfafidholldjlaaDoor
namespace Go.Proofs.YtfafidholldjlaaDoor.digestBlocks
open Go.ChangeShapes Go.WideShapes Go.ChangeAt Go.RowKit
set_option maxRecDepth 100000 in
set_option maxHeartbeats 1000000 in
theorem contract (H : Type) (enc : TypeId × Value → H) (W : World) (base : Nat) (args : Array Value) (ds gs : List (DataW H)) (before : List MemPlace)
    (hval : ∀ (j : Nat) t v, Tryd.f11.params[j]? = some t → args[j]? = some v → Value.okWide Tryd.prog W .any base t v)
    (hW : DataW.Whole enc Tryd.prog Tryd.f11.params.toList Rows.digestBlocksSpec.vars false W args.toList ds gs before) (hL : laidMetH Tryd.prog Rows.digestBlocksRow.laid W) (hS : W.ShapedOpen Tryd.prog) :
    Calls Tryd.prog 11 args W fun e W' => ∃ v, e = .returned v ∧ Rows.digestBlocksSpec.post enc Tryd.prog Tryd.f11 false true false false W args v W' := by
  have hW' := hW
  obtain ⟨p, q, hA0, hV, rfl, hfz, hnd⟩ := hW
  have hA : DataW.TrodAll enc Tryd.prog W 0 (fun _ => true) true Tryd.f11.params.toList args.toList ds p := hA0
  rw [Tryd.params11] at hA hval
  obtain ⟨v0, vs0, d0, ds0, p0, q0, hargs, rfl, rfl, h0, r0⟩ := trodAll_cons hA
  obtain ⟨rfl, rfl, rfl⟩ := trodAll_nil r0
  obtain rfl : args = #[v0] := by cases args; simp_all
  obtain ⟨rfl, rfl⟩ := trodVars_none hV
  obtain ⟨b0, rfl, rfl, rfl, hw0⟩ := Go.ChangeMaps.open_string Tryd.underlying9 (hval 0 9 v0 rfl rfl) h0
  clear hA0
  simp only [List.append_nil] at hW'
  obtain ⟨aw, ab, hG⟩ := dglob_of hS hL
  have walk := blocks_law b0 hw0 hG
  refine walk.mono fun e W' ⟨he, hb⟩ => ?_
  subst he
  exact ⟨_, rfl, post_plain hW' (fun _ _ _ => trodAll_cons_mk (shut_bool Tryd.underlying4 _) trodAll_mk0) (fun _ => (trodAll_cons_mk (Go.ChangeMaps.shut_string Tryd.underlying9 hw0) trodAll_mk0)) (fun _ => rfl) hb (ok_one (by kernel_rfl) rfl (okWide_bool_mk Tryd.underlying4 _))⟩
theorem reads (os : Os) {H : Type} (enc : TypeId × Value → H) : ∃ places, DataW.whole enc Tryd.prog ((laidWorldE os).forCall (fun _ _ => 0) ⟨#[], #[.string ⟨#[]⟩], []⟩).memory Tryd.f11.params.toList Rows.digestBlocksSpec.vars false (#[.string ⟨#[]⟩] : Array Value).toList 8 = some ([.lit (.string [])], [], places) :=
  ⟨[], by kernel_rfl⟩
set_option maxRecDepth 100000 in
theorem lifted (os : Os) (started : os.Started) (H : Type) (enc : TypeId × Value → H) (F : Stop.Interp) :
    ReturnsInHanded {} Tryd.checked os 11 .any ((OpenSpec.ofChange Rows.digestBlocksSpec).preRow enc Tryd.prog Tryd.f11 Rows.digestBlocksRow.domain false Rows.digestBlocksRow.laid) (((OpenSpec.ofChange Rows.digestBlocksSpec).at F).post enc Tryd.prog Tryd.f11 false true false false) := by
  obtain ⟨places, hx⟩ := reads os enc
  refine returnsInHanded_of_row (C := Tryd.checked) (s := OpenSpec.ofChange Rows.digestBlocksSpec) own started (by kernel_rfl) Tryd.func11
    (witness_row_atRef (enc := enc) (C := Tryd.checked) false (laidWorldE os) #[.string ⟨#[]⟩] rfl (by kernel_rfl) (by kernel_rfl) (by kernel_rfl)
      (OpenSpec.preRow_of_cond 8 hx (by kernel_rfl) (fun k hk => by cases hk) (by kernel_rfl) (laid_met_two os _))) ?_
  intro W base args ds gs before hval hW _ _ _ hL hS _
  exact contract H enc W base args ds gs before hval hW hL hS
theorem facts : joinedFacts Tryd.prog 11 Tryd.f11 Rows.digestBlocksSpec Rows.digestBlocksRow = true := by
  unfold joinedFacts
  rw [may, lifts, make_cut]
  kernel_rfl
set_option maxRecDepth 100000 in
theorem said : Rows.DigestBlocksSaid :=
  OpenClaim.holds_of_cond 11 Tryd.f11 rfl rfl rfl rfl rfl rfl rfl ⟨rfl, rfl, rfl, rfl, rfl⟩ rfl rfl rfl rfl rfl (by kernel_rfl) Tryd.func11 facts
    (of_decide_eq_true (by kernel_rfl)) (by unfold Func.isWrapper; first | (rw [if_pos (by decide +kernel)]; kernel_rfl) | (rw [if_neg (by decide +kernel)]; exact ⟨rfl, rfl⟩))
    (fun os started H enc _ F => by rw [OpenClaim.pre_eq_preRow]; exact lifted os started H enc F)
theorem plain (f : FuncId) (fn : Func) (hf : Tryd.pinned.checked.prog.funcNamed "sigillary/sigillarylaw02.DigestBlocks" = some f) (hfn : Tryd.pinned.checked.prog.funcs[f]? = some fn) :
    true = Tryd.pinned.checked.prog.looks [] ∧ ∀ (j : Nat) t, fn.params[j]? = some t → Tryd.pinned.checked.prog.wantsStandIn t = false := by
  obtain rfl : f = 11 := Option.some.inj ((show Tryd.prog.funcNamed "sigillary/sigillarylaw02.DigestBlocks" = some 11 by kernel_rfl).symm.trans hf) |>.symm
  obtain rfl : fn = Tryd.f11 := (Option.some.inj (Tryd.func11.symm.trans hfn)).symm
  refine ⟨by kernel_rfl, fun j t ht => ?_⟩
  rw [Tryd.params11] at ht
  have hm : t = 9 := by
    have := Array.mem_of_getElem? ht
    simpa using this
  obtain rfl := hm
  · exact (show Tryd.prog.wantsStandIn 9 = false by kernel_rfl)
/-- ████ THE CARD ████ -/
theorem card : Rows.DigestBlocksCardSaid :=
  Claim7.holds_tied_plain_at .later [] _ _ _ _ said (fun _ h => by cases h) (by kernel_rfl) (fun _ h => by cases h) digestBlocks_row_tie rfl ⟨rfl, rfl⟩ main_is rfl plain (by kernel_rfl)
end Go.Proofs.YtfafidholldjlaaDoor.digestBlocks
