/- The law RoundsParts: what a call of it answers, for every state and every text. -/
import Derived.Test.YtfafidholldjlaaDoorB6
import Derived.Test.YtfafidholldjlaaDoorR5
import Derived.BigRegion
set_option linter.unusedVariables false
set_option linter.unusedSimpArgs false
namespace Go.Proofs.YtfafidholldjlaaDoor
open Go.RowKit
set_option maxRecDepth 100000 in
set_option maxHeartbeats 4000000 in
theorem parts_ok (s : Sha.St) (hs : s.ok) (b : ByteArray) (hm : b.size ≤ maxLen) (h64 : (front b 70).size = 64) {B : Nat} {aw ab : Addr} {w : World} (h : Glob B aw ab w) :
    Calls Tryd.prog 4 #[.agg #[.int .i64 s.a, .int .i64 s.b, .int .i64 s.c, .int .i64 s.d, .int .i64 s.e, .int .i64 s.f, .int .i64 s.g, .int .i64 s.h], .string b] w fun e w' => e = .returned (.bool true) ∧ Below w.heap.size w w' := by
  have H := Lib.hid h
  have HM := Lib.hid hm
  have H64 := Lib.hid h64
  have Hs := Lib.hid hs
  have h6 := h.pos
  clear h hm h64 hs
  go_enter Tryd.func4, Tryd.ntmps4
  go_wp2_with fail
  refine (shown_any (H.out.below ((Below.refl B w).alloc H.out.size _))).mono ?_
  rintro e w1 ⟨rfl, hb1⟩
  have hc1 := (hb1.block w.heap.size (by simp)).trans (alloc_heap_at w (.cells #[.int .i64 s.a, .int .i64 s.b, .int .i64 s.c, .int .i64 s.d, .int .i64 s.e, .int .i64 s.f, .int .i64 s.g, .int .i64 s.h] 23) _ rfl)
  have hw1 : Below w.heap.size w w1 := ((Below.refl _ w).alloc (Nat.le_refl _) _).trans (hb1.mono (by simp))
  have FS := Lib.hid hc1
  have HW := Lib.hid hw1
  clear hb1 hc1 hw1
  go_wp2_with fail
  refine (cut_any b HM.out _).mono ?_
  rintro e w2 ⟨rfl, rfl⟩
  obtain ⟨bl, hbl⟩ : ∃ x, front b 70 = x := ⟨_, rfl⟩
  rw [hbl] at H64 ⊢
  clear hbl
  obtain ⟨A, hA⟩ : ∃ A, s.compress (byteAt bl) = A := ⟨_, rfl⟩
  have hcmp := fun (W : World) (hG : Glob B aw ab W) => compress_ok hG s Hs.out bl H64.out
  rw [hA] at hcmp
  unfold row64 at hcmp
  have HA := Lib.hid hA
  have HCMP := Lib.hid hcmp
  clear hA hcmp
  have y0 : w1.cell? ⟨w.heap.size, 0, none⟩ = some (.int .i64 s.a) := cell_of FS.out 0
  have y1 : w1.cell? ⟨w.heap.size, 1, none⟩ = some (.int .i64 s.b) := cell_of FS.out 1
  have y2 : w1.cell? ⟨w.heap.size, 2, none⟩ = some (.int .i64 s.c) := cell_of FS.out 2
  have y3 : w1.cell? ⟨w.heap.size, 3, none⟩ = some (.int .i64 s.d) := cell_of FS.out 3
  have y4 : w1.cell? ⟨w.heap.size, 4, none⟩ = some (.int .i64 s.e) := cell_of FS.out 4
  have y5 : w1.cell? ⟨w.heap.size, 5, none⟩ = some (.int .i64 s.f) := cell_of FS.out 5
  have y6 : w1.cell? ⟨w.heap.size, 6, none⟩ = some (.int .i64 s.g) := cell_of FS.out 6
  have y7 : w1.cell? ⟨w.heap.size, 7, none⟩ = some (.int .i64 s.h) := cell_of FS.out 7
  go_wp2_with fail
  refine (HCMP.out _ (H.out.below (HW.out.mono H.out.size))).mono ?_
  rintro e w2 ⟨rfl, hb2⟩
  have xS := (hb2.block _ (lt_of_heap FS.out)).trans FS.out
  clear FS
  have FS := Lib.hid xS
  clear xS
  have hw2 := HW.out.trans (hb2.mono HW.out.size)
  clear HW
  have HW := Lib.hid hw2
  clear hb2 hw2
  clear y0 y1 y2 y3 y4 y5 y6 y7
  go_upto_region 4 with (fail)
  have xS := alloc_heap_old (.cells #[.int .i64 A.a, .int .i64 A.b, .int .i64 A.c, .int .i64 A.d, .int .i64 A.e, .int .i64 A.f, .int .i64 A.g, .int .i64 A.h] 23) FS.out
  have xN := alloc_heap_at w2 (.cells #[.int .i64 A.a, .int .i64 A.b, .int .i64 A.c, .int .i64 A.d, .int .i64 A.e, .int .i64 A.f, .int .i64 A.g, .int .i64 A.h] 23) _ rfl
  have hW := HW.out.alloc HW.out.size (.cells #[.int .i64 A.a, .int .i64 A.b, .int .i64 A.c, .int .i64 A.d, .int .i64 A.e, .int .i64 A.f, .int .i64 A.g, .int .i64 A.h] 23)
  generalize w2.alloc (.cells #[.int .i64 A.a, .int .i64 A.b, .int .i64 A.c, .int .i64 A.d, .int .i64 A.e, .int .i64 A.f, .int .i64 A.g, .int .i64 A.h] 23) = w3 at xS xN hW ⊢
  clear HW FS 
  have FS := Lib.hid xS
  have FT := Lib.hid xN
  have HW := Lib.hid hW
  clear xS xN hW
  go_wp2_with fail
  refine (schedule_ok (H.out.below (HW.out.mono H.out.size)) bl H64.out).mono ?_
  rintro e w4 ⟨ga, ca, rfl, hga, zga, rga, hb4⟩
  have xS := (hb4.block _ (lt_of_heap FS.out)).trans FS.out
  clear FS
  have FS := Lib.hid xS
  clear xS
  have xT := (hb4.block _ (lt_of_heap FT.out)).trans FT.out
  clear FT
  have FT := Lib.hid xT
  clear xT
  have hw4 := HW.out.trans (hb4.mono HW.out.size)
  clear HW
  have HW := Lib.hid hw4
  clear hb4 hw4
  have Rga := Lib.hid rga
  have Zga := Lib.hid zga
  clear rga zga hga
  have y0 : w4.cell? ⟨w.heap.size, 0, none⟩ = some (.int .i64 s.a) := cell_of FS.out 0
  have y1 : w4.cell? ⟨w.heap.size, 1, none⟩ = some (.int .i64 s.b) := cell_of FS.out 1
  have y2 : w4.cell? ⟨w.heap.size, 2, none⟩ = some (.int .i64 s.c) := cell_of FS.out 2
  have y3 : w4.cell? ⟨w.heap.size, 3, none⟩ = some (.int .i64 s.d) := cell_of FS.out 3
  have y4 : w4.cell? ⟨w.heap.size, 4, none⟩ = some (.int .i64 s.e) := cell_of FS.out 4
  have y5 : w4.cell? ⟨w.heap.size, 5, none⟩ = some (.int .i64 s.f) := cell_of FS.out 5
  have y6 : w4.cell? ⟨w.heap.size, 6, none⟩ = some (.int .i64 s.g) := cell_of FS.out 6
  have y7 : w4.cell? ⟨w.heap.size, 7, none⟩ = some (.int .i64 s.h) := cell_of FS.out 7
  go_wp2_with fail
  refine (bytes_ok s Hs.out (H.out.below (HW.out.mono H.out.size))).mono ?_
  rintro e w5 ⟨rfl, hb5⟩
  have xS := (hb5.block _ (lt_of_heap FS.out)).trans FS.out
  clear FS
  have FS := Lib.hid xS
  clear xS
  have xT := (hb5.block _ (lt_of_heap FT.out)).trans FT.out
  clear FT
  have FT := Lib.hid xT
  clear xT
  have xga := fun k hk => (hb5.cell (p := ⟨ga, k, none⟩) Zga.out).trans (Rga.out k hk)
  have yga := Nat.lt_of_lt_of_le Zga.out hb5.size
  clear Rga Zga
  have Rga := Lib.hid xga
  have Zga := Lib.hid yga
  clear xga yga
  have hw5 := HW.out.trans (hb5.mono HW.out.size)
  clear HW
  have HW := Lib.hid hw5
  clear hb5 hw5
  clear y0 y1 y2 y3 y4 y5 y6 y7
  generalize (⟨(stBytes s).toArray⟩ : ByteArray) = bs
  have hS5 := lt_of_heap FS.out
  have hT5 := lt_of_heap FT.out
  have y0 : w5.cell? ⟨w.heap.size, 0, none⟩ = some (.int .i64 s.a) := cell_of FS.out 0
  have y1 : w5.cell? ⟨w.heap.size, 1, none⟩ = some (.int .i64 s.b) := cell_of FS.out 1
  have y2 : w5.cell? ⟨w.heap.size, 2, none⟩ = some (.int .i64 s.c) := cell_of FS.out 2
  have y3 : w5.cell? ⟨w.heap.size, 3, none⟩ = some (.int .i64 s.d) := cell_of FS.out 3
  have y4 : w5.cell? ⟨w.heap.size, 4, none⟩ = some (.int .i64 s.e) := cell_of FS.out 4
  have y5 : w5.cell? ⟨w.heap.size, 5, none⟩ = some (.int .i64 s.f) := cell_of FS.out 5
  have y6 : w5.cell? ⟨w.heap.size, 6, none⟩ = some (.int .i64 s.g) := cell_of FS.out 6
  have y7 : w5.cell? ⟨w.heap.size, 7, none⟩ = some (.int .i64 s.h) := cell_of FS.out 7
  go_wp2_with fail
  clear y0 y1 y2 y3 y4 y5 y6 y7
  go_loopw [13] (fun i W => ∃ t : Nat, t ≤ 64 ∧ i = .int .i64 t ∧ W.heap[w5.heap.size]? = some (.cells (row64 (s.rounds (byteAt bl) t)) 23 (0, 0)) ∧ Below w5.heap.size w5 W) (fun i _ => 64 - (intOf i).toNat)
  case atStart => exact ⟨0, by omega, rfl, alloc_heap_at _ _ _ rfl, (Below.refl _ _).alloc (Nat.le_refl _) _⟩
  case round =>
    obtain ⟨t, ht, rfl, hrow, hbw⟩ := hrel
    by_cases hlt : t < 64
    · have c0 : wr.cell? ⟨ga, t, none⟩ = some (.int .i64 (Sha.word (byteAt bl) t : Nat)) := (hbw.cell (p := ⟨ga, t, none⟩) Zga.out).trans (Rga.out t hlt)
      have hwl := Sha.word_lt (byteAt bl) (byteAt_lt bl) t
      have hTok := Sha.St.rounds_ok Hs.out (byteAt bl) t
      have hT1 : s.rounds (byteAt bl) (t + 1) = (s.rounds (byteAt bl) t).round (Sha.K.getD t 0) (Sha.word (byteAt bl) t) := rfl
      obtain ⟨T, hT⟩ : ∃ T, s.rounds (byteAt bl) t = T := ⟨_, rfl⟩
      rw [hT] at hrow hTok hT1
      obtain ⟨U, hU⟩ : ∃ U, T.round (Sha.K.getD t 0) (Sha.word (byteAt bl) t) = U := ⟨_, rfl⟩
      have hcall := fun (W : World) (hG : Glob B aw ab W) => round_ok T hTok t (Sha.word (byteAt bl) t) hlt hwl hG
      rw [hU] at hT1 hcall
      generalize Sha.word (byteAt bl) t = x at c0 hcall hU
      have i0 : (0 : Int) ≤ (t : Int) := by omega
      have i1 : (t : Int) < 64 := by omega
      have hbt : w5.heap.size < wr.heap.size := lt_of_heap hrow
      have hgl : ga < wr.heap.size := Nat.lt_of_lt_of_le Zga.out hbw.size
      unfold row64 at hrow hcall
      have y0 : wr.cell? ⟨w5.heap.size, 0, none⟩ = some (.int .i64 T.a) := cell_of hrow 0
      have y1 : wr.cell? ⟨w5.heap.size, 1, none⟩ = some (.int .i64 T.b) := cell_of hrow 1
      have y2 : wr.cell? ⟨w5.heap.size, 2, none⟩ = some (.int .i64 T.c) := cell_of hrow 2
      have y3 : wr.cell? ⟨w5.heap.size, 3, none⟩ = some (.int .i64 T.d) := cell_of hrow 3
      have y4 : wr.cell? ⟨w5.heap.size, 4, none⟩ = some (.int .i64 T.e) := cell_of hrow 4
      have y5 : wr.cell? ⟨w5.heap.size, 5, none⟩ = some (.int .i64 T.f) := cell_of hrow 5
      have y6 : wr.cell? ⟨w5.heap.size, 6, none⟩ = some (.int .i64 T.g) := cell_of hrow 6
      have y7 : wr.cell? ⟨w5.heap.size, 7, none⟩ = some (.int .i64 T.h) := cell_of hrow 7
      have HT1 := Lib.hid hT1
      have HROW := Lib.hid hrow
      have HBW := Lib.hid hbw
      have HGW := Lib.hid (H.out.below ((HW.out.trans (hbw.mono HW.out.size)).mono H.out.size))
      have HCL := Lib.hid (fun (W' : World) (hb : Below wr.heap.size wr W') => (hcall W' (HGW.out.below (hb.mono HGW.out.size))).mono (fun e w9 hh => And.intro hh.1 (And.intro (hb.trans (hh.2.mono hb.size)) hh.2)))
      clear hT1 hrow hbw hcall hT hU hTok hwl
      go_upto_region 12 with (fail)
      go_cut [14, 15] from 63 to 72 (fun s14 s15 wx => ∃ p, s14 = .pointer (some ⟨p, 0, none⟩) ∧ s15 = .int .i64 0 ∧ w5.heap.size < p ∧ wx.heap[p]? = some (.cells #[.int .i64 U.a, .int .i64 U.b, .int .i64 U.c, .int .i64 U.d, .int .i64 U.e, .int .i64 U.f, .int .i64 U.g, .int .i64 U.h] 23 (0, 0)) ∧ wx.heap[w5.heap.size]? = some (.cells #[.int .i64 T.a, .int .i64 T.b, .int .i64 T.c, .int .i64 T.d, .int .i64 T.e, .int .i64 T.f, .int .i64 T.g, .int .i64 T.h] 23 (0, 0)) ∧ Below w5.heap.size w5 wx)
      case first =>
        go_region_held3 (fun w' => w'.cell? ⟨w5.heap.size, 0, none⟩ = some (.int .i64 T.a) ∧ w'.cell? ⟨w5.heap.size, 1, none⟩ = some (.int .i64 T.b) ∧ w'.cell? ⟨w5.heap.size, 2, none⟩ = some (.int .i64 T.c) ∧ w'.cell? ⟨w5.heap.size, 3, none⟩ = some (.int .i64 T.d) ∧ w'.cell? ⟨w5.heap.size, 4, none⟩ = some (.int .i64 T.e) ∧ w'.cell? ⟨w5.heap.size, 5, none⟩ = some (.int .i64 T.f) ∧ w'.cell? ⟨w5.heap.size, 6, none⟩ = some (.int .i64 T.g) ∧ w'.cell? ⟨w5.heap.size, 7, none⟩ = some (.int .i64 T.h) ∧ w'.cell? ⟨ga, t, none⟩ = some (.int .i64 (x : Int)))
          (first | (with_reducible exact ⟨x0, x1, x2, x3, x4, x5, x6, x7, xc⟩) | (with_reducible exact ⟨new_past hlx x0, new_past hlx x1, new_past hlx x2, new_past hlx x3, new_past hlx x4, new_past hlx x5, new_past hlx x6, new_past hlx x7, new_past hlg xc⟩) | (with_reducible exact ⟨(World.cell?_of_block (w := w9) (a := ⟨w5.heap.size, 0, none⟩) (other8 w9 wr.heap.size w5.heap.size _ _ _ _ _ _ _ _ (Nat.ne_of_lt hbt))).trans x0, (World.cell?_of_block (w := w9) (a := ⟨w5.heap.size, 1, none⟩) (other8 w9 wr.heap.size w5.heap.size _ _ _ _ _ _ _ _ (Nat.ne_of_lt hbt))).trans x1, (World.cell?_of_block (w := w9) (a := ⟨w5.heap.size, 2, none⟩) (other8 w9 wr.heap.size w5.heap.size _ _ _ _ _ _ _ _ (Nat.ne_of_lt hbt))).trans x2, (World.cell?_of_block (w := w9) (a := ⟨w5.heap.size, 3, none⟩) (other8 w9 wr.heap.size w5.heap.size _ _ _ _ _ _ _ _ (Nat.ne_of_lt hbt))).trans x3, (World.cell?_of_block (w := w9) (a := ⟨w5.heap.size, 4, none⟩) (other8 w9 wr.heap.size w5.heap.size _ _ _ _ _ _ _ _ (Nat.ne_of_lt hbt))).trans x4, (World.cell?_of_block (w := w9) (a := ⟨w5.heap.size, 5, none⟩) (other8 w9 wr.heap.size w5.heap.size _ _ _ _ _ _ _ _ (Nat.ne_of_lt hbt))).trans x5, (World.cell?_of_block (w := w9) (a := ⟨w5.heap.size, 6, none⟩) (other8 w9 wr.heap.size w5.heap.size _ _ _ _ _ _ _ _ (Nat.ne_of_lt hbt))).trans x6, (World.cell?_of_block (w := w9) (a := ⟨w5.heap.size, 7, none⟩) (other8 w9 wr.heap.size w5.heap.size _ _ _ _ _ _ _ _ (Nat.ne_of_lt hbt))).trans x7, (World.cell?_of_block (w := w9) (a := ⟨ga, t, none⟩) (other8 w9 wr.heap.size ga _ _ _ _ _ _ _ _ (Nat.ne_of_lt hgl))).trans xc⟩) | go_keep)
          ((go_at_call 27; refine (HCL.out _ ?_).mono ?_; (repeat (first | exact Below.refl _ _ | refine Below.drew ?_ | refine Below.alloc ?_ (by (simp <;> omega)) _)); rintro e w9 ⟨rfl, hv9, hb9⟩; have x0 := (hv9.cell (p := ⟨w5.heap.size, 0, none⟩) hbt).trans y0; have x1 := (hv9.cell (p := ⟨w5.heap.size, 1, none⟩) hbt).trans y1; have x2 := (hv9.cell (p := ⟨w5.heap.size, 2, none⟩) hbt).trans y2; have x3 := (hv9.cell (p := ⟨w5.heap.size, 3, none⟩) hbt).trans y3; have x4 := (hv9.cell (p := ⟨w5.heap.size, 4, none⟩) hbt).trans y4; have x5 := (hv9.cell (p := ⟨w5.heap.size, 5, none⟩) hbt).trans y5; have x6 := (hv9.cell (p := ⟨w5.heap.size, 6, none⟩) hbt).trans y6; have x7 := (hv9.cell (p := ⟨w5.heap.size, 7, none⟩) hbt).trans y7; have xc := (hv9.cell (p := ⟨ga, t, none⟩) hgl).trans c0; have hlx := Nat.lt_of_lt_of_le hbt hv9.size; have hlg := Nat.lt_of_lt_of_le hgl hv9.size; first | (have hz9 := (hb9.block wr.heap.size (by simp)).trans (alloc_heap_at wr (.cells #[.int .i64 0, .int .i64 0, .int .i64 0, .int .i64 0, .int .i64 0, .int .i64 0, .int .i64 0, .int .i64 0] 23) _ rfl); have g0 := cell_of hz9 0; have j0 := frozen_of hz9 0; have g1 := cell_of hz9 1; have j1 := frozen_of hz9 1; have g2 := cell_of hz9 2; have j2 := frozen_of hz9 2; have g3 := cell_of hz9 3; have j3 := frozen_of hz9 3; have g4 := cell_of hz9 4; have j4 := frozen_of hz9 4; have g5 := cell_of hz9 5; have j5 := frozen_of hz9 5; have g6 := cell_of hz9 6; have j6 := frozen_of hz9 6; have g7 := cell_of hz9 7; have j7 := frozen_of hz9 7) | skip))
        all_goals
          have hx9 := (hv9.block _ hbt).trans HROW.out
          have hbx := HBW.out.trans (hv9.mono (Nat.le_of_lt hbt))
          have HX9 := Lib.hid hx9
          have HBX := Lib.hid hbx
          clear hx9 hbx
          go_wp2_with fail
          go_meet
          first
            | (have hz' := hz9; exact ⟨wr.heap.size, rfl, rfl, hbt, store8 w9 _ 23 _ _ _ _ _ _ _ _ _ _ _ _ _ _ _ _ hz', (other8 w9 _ _ _ _ _ _ _ _ _ _ (Nat.ne_of_lt hbt)).trans HX9.out, below8 w9 _ _ _ _ _ _ _ _ _ HBX.out (Nat.le_of_lt hbt)⟩)
            | exact ⟨w9.heap.size, rfl, rfl, lt_of_heap HX9.out, alloc_heap_at _ _ _ rfl, alloc_heap_old _ HX9.out, HBX.out.alloc HBX.out.size _⟩
      case rest =>
        obtain ⟨p, rfl, rfl, hp, hcp, hcx, hbc⟩ := hcut
        clear y0 y1 y2 y3 y4 y5 y6 y7 c0 HCL
        have y0 : wc.cell? ⟨p, 0, none⟩ = some (.int .i64 U.a) := cell_of hcp 0
        have y1 : wc.cell? ⟨p, 1, none⟩ = some (.int .i64 U.b) := cell_of hcp 1
        have y2 : wc.cell? ⟨p, 2, none⟩ = some (.int .i64 U.c) := cell_of hcp 2
        have y3 : wc.cell? ⟨p, 3, none⟩ = some (.int .i64 U.d) := cell_of hcp 3
        have y4 : wc.cell? ⟨p, 4, none⟩ = some (.int .i64 U.e) := cell_of hcp 4
        have y5 : wc.cell? ⟨p, 5, none⟩ = some (.int .i64 U.f) := cell_of hcp 5
        have y6 : wc.cell? ⟨p, 6, none⟩ = some (.int .i64 U.g) := cell_of hcp 6
        have y7 : wc.cell? ⟨p, 7, none⟩ = some (.int .i64 U.h) := cell_of hcp 7
        have z0 : wc.cell? ⟨w5.heap.size, 0, none⟩ = some (.int .i64 T.a) := cell_of hcx 0
        have z1 : wc.cell? ⟨w5.heap.size, 1, none⟩ = some (.int .i64 T.b) := cell_of hcx 1
        have z2 : wc.cell? ⟨w5.heap.size, 2, none⟩ = some (.int .i64 T.c) := cell_of hcx 2
        have z3 : wc.cell? ⟨w5.heap.size, 3, none⟩ = some (.int .i64 T.d) := cell_of hcx 3
        have z4 : wc.cell? ⟨w5.heap.size, 4, none⟩ = some (.int .i64 T.e) := cell_of hcx 4
        have z5 : wc.cell? ⟨w5.heap.size, 5, none⟩ = some (.int .i64 T.f) := cell_of hcx 5
        have z6 : wc.cell? ⟨w5.heap.size, 6, none⟩ = some (.int .i64 T.g) := cell_of hcx 6
        have z7 : wc.cell? ⟨w5.heap.size, 7, none⟩ = some (.int .i64 T.h) := cell_of hcx 7
        have f0 : wc.frozen? ⟨w5.heap.size, 0, none⟩ = false := frozen_of hcx 0
        have f1 : wc.frozen? ⟨w5.heap.size, 1, none⟩ = false := frozen_of hcx 1
        have f2 : wc.frozen? ⟨w5.heap.size, 2, none⟩ = false := frozen_of hcx 2
        have f3 : wc.frozen? ⟨w5.heap.size, 3, none⟩ = false := frozen_of hcx 3
        have f4 : wc.frozen? ⟨w5.heap.size, 4, none⟩ = false := frozen_of hcx 4
        have f5 : wc.frozen? ⟨w5.heap.size, 5, none⟩ = false := frozen_of hcx 5
        have f6 : wc.frozen? ⟨w5.heap.size, 6, none⟩ = false := frozen_of hcx 6
        have f7 : wc.frozen? ⟨w5.heap.size, 7, none⟩ = false := frozen_of hcx 7
        have HCX := Lib.hid hcx
        have HBC := Lib.hid hbc
        clear hcp hcx hbc
        go_wp2_with fail
        go_roundw
        case rel =>
          refine ⟨t + 1, by omega, by go_num, ?_, ?_⟩
          · rw [HT1.out]
            exact store8 wc w5.heap.size 23 _ _ _ _ _ _ _ _ (.int .i64 U.a) (.int .i64 U.b) (.int .i64 U.c) (.int .i64 U.d) (.int .i64 U.e) (.int .i64 U.f) (.int .i64 U.g) (.int .i64 U.h) HCX.out
          · exact below8 wc w5.heap.size (.int .i64 U.a) (.int .i64 U.b) (.int .i64 U.c) (.int .i64 U.d) (.int .i64 U.e) (.int .i64 U.f) (.int .i64 U.g) (.int .i64 U.h) HBC.out (Nat.le_refl _)
        case measure => simp [intOf]; omega
    · obtain rfl : t = 64 := by omega
      obtain ⟨R, hR⟩ : ∃ R, s.rounds (byteAt bl) 64 = R := ⟨_, rfl⟩
      have hRok := Sha.St.rounds_ok Hs.out (byteAt bl) 64
      rw [hR] at hrow hRok
      have HR := Lib.hid hR
      have HROW := Lib.hid hrow
      have HBW := Lib.hid hbw
      have HRok := Lib.hid hRok
      clear hR hrow hbw hRok
      have e64 : ((64 : Nat) : Int) = 64 := rfl
      rw [e64]
      clear e64
      go_wp2_with fail
      go_loopw [16] (fun i W => ∃ t : Nat, t ≤ 8 ∧ i = .int .i64 t ∧ W.heap[w5.heap.size]? = some (.cells (mixRow (words8 R) (words8 s) t) 23 (0, 0)) ∧ Below w5.heap.size w5 W) (fun i _ => 8 - (intOf i).toNat)
      case atStart => exact ⟨0, by omega, rfl, by rw [mixRow_zero]; exact HROW.out, HBW.out⟩
      case round =>
        clear HROW HBW
        obtain ⟨t, ht, rfl, hrow, hbw⟩ := hrel
        by_cases hlt : t < 8
        · have c1 := cell_of hrow t
          rw [mixRow_get _ _ _ _ hlt, if_neg (Nat.lt_irrefl t)] at c1
          have hdw := (hbw.block w.heap.size hS5).trans FS.out
          have c2 := cell_of hdw t
          rw [show (#[.int .i64 s.a, .int .i64 s.b, .int .i64 s.c, .int .i64 s.d, .int .i64 s.e, .int .i64 s.f, .int .i64 s.g, .int .i64 s.h] : Array Value) = row64 s from rfl, row64_get s t hlt] at c2
          have fz := frozen_of hrow t
          have hset := mixRow_set (words8 R) (words8 s) t hlt
          have l1 := words8_lt HRok.out t hlt
          have l2 := words8_lt Hs.out t hlt
          generalize (words8 R).getD t 0 = r at c1 hset l1
          generalize (words8 s).getD t 0 = q at c2 hset l2
          obtain ⟨u, hu⟩ : ∃ u, r + q = u := ⟨_, rfl⟩
          obtain ⟨V, hV⟩ : ∃ V, u % 4294967296 = V := ⟨_, rfl⟩
          rw [hu, hV] at hset
          have i0 : (0 : Int) ≤ (t : Int) := by omega
          have i1 : (t : Int) < 8 := by omega
          have f1 : IntKind.i64.wrap ((r : Int) + (q : Int)) = (u : Int) := by rw [IntWalk.i64_in _ (by omega)]; omega
          have f2 : (u : Int).tmod 4294967296 = (V : Int) := by rw [← hV, Int.tmod_eq_emod_of_nonneg (by omega)]; simp
          have f3 : (u : Int) % 4294967296 = (V : Int) := by rw [← hV]; simp
          have HROW := Lib.hid hrow
          have HBW := Lib.hid hbw
          have HSET := Lib.hid hset
          clear hrow hbw hset hu hV hdw
          go_wp2_with fail
          go_region
          all_goals
            clear f1 f2 f3 c1 c2 fz
            go_wp2_with fail
            go_roundw
            case rel =>
              refine ⟨t + 1, by omega, by go_num, ?_, ?_⟩
              · have := setCell_heap HROW.out t (.int .i64 (V : Int))
                rw [HSET.out] at this
                exact this
              · exact HBW.out.drew.setCell (Nat.le_refl _) _
            case measure => simp [intOf]; omega
        · obtain rfl : t = 8 := by omega
          rw [mixRow_eight] at hrow
          have hcomp : R.add s = A := by rw [← HA.out, ← HR.out]; rfl
          rw [hcomp] at hrow
          unfold row64 at hrow
          have htw := (hbw.block _ hT5).trans FT.out
          have hbb := HW.out.trans (hbw.mono HW.out.size)
          have y0 : wr.cell? ⟨w5.heap.size, 0, none⟩ = some (.int .i64 A.a) := cell_of hrow 0
          have y1 : wr.cell? ⟨w5.heap.size, 1, none⟩ = some (.int .i64 A.b) := cell_of hrow 1
          have y2 : wr.cell? ⟨w5.heap.size, 2, none⟩ = some (.int .i64 A.c) := cell_of hrow 2
          have y3 : wr.cell? ⟨w5.heap.size, 3, none⟩ = some (.int .i64 A.d) := cell_of hrow 3
          have y4 : wr.cell? ⟨w5.heap.size, 4, none⟩ = some (.int .i64 A.e) := cell_of hrow 4
          have y5 : wr.cell? ⟨w5.heap.size, 5, none⟩ = some (.int .i64 A.f) := cell_of hrow 5
          have y6 : wr.cell? ⟨w5.heap.size, 6, none⟩ = some (.int .i64 A.g) := cell_of hrow 6
          have y7 : wr.cell? ⟨w5.heap.size, 7, none⟩ = some (.int .i64 A.h) := cell_of hrow 7
          have z0 : wr.cell? ⟨w2.heap.size, 0, none⟩ = some (.int .i64 A.a) := cell_of htw 0
          have z1 : wr.cell? ⟨w2.heap.size, 1, none⟩ = some (.int .i64 A.b) := cell_of htw 1
          have z2 : wr.cell? ⟨w2.heap.size, 2, none⟩ = some (.int .i64 A.c) := cell_of htw 2
          have z3 : wr.cell? ⟨w2.heap.size, 3, none⟩ = some (.int .i64 A.d) := cell_of htw 3
          have z4 : wr.cell? ⟨w2.heap.size, 4, none⟩ = some (.int .i64 A.e) := cell_of htw 4
          have z5 : wr.cell? ⟨w2.heap.size, 5, none⟩ = some (.int .i64 A.f) := cell_of htw 5
          have z6 : wr.cell? ⟨w2.heap.size, 6, none⟩ = some (.int .i64 A.g) := cell_of htw 6
          have z7 : wr.cell? ⟨w2.heap.size, 7, none⟩ = some (.int .i64 A.h) := cell_of htw 7
          have hea : eq8 [(A.a : Int), (A.b : Int), (A.c : Int), (A.d : Int), (A.e : Int), (A.f : Int), (A.g : Int), (A.h : Int)] [(A.a : Int), (A.b : Int), (A.c : Int), (A.d : Int), (A.e : Int), (A.f : Int), (A.g : Int), (A.h : Int)] = true := eq8_refl _
          have HBB := Lib.hid hbb
          clear hrow hbw hbb hcomp htw
          go_wp2_with fail
          exact bodyPost_ret (v := .bool true) (by simp [results, Tryd.results4, go_sem]) rfl ⟨rfl, HBB.out⟩
/-- EVERY STATE, EVERY TEXT. -/
theorem parts_law (s0 s1 s2 s3 s4 s5 s6 s7 : Int) (b : ByteArray) (hm : b.size ≤ maxLen) {B : Nat} {aw ab : Addr} {w : World} (h : Glob B aw ab w) :
    Calls Tryd.prog 4 #[.agg #[.int .i64 s0, .int .i64 s1, .int .i64 s2, .int .i64 s3, .int .i64 s4, .int .i64 s5, .int .i64 s6, .int .i64 s7], .string b] w fun e w' => e = .returned (.bool true) ∧ Below w.heap.size w w' := by
  by_cases hW : Words8 s0 s1 s2 s3 s4 s5 s6 s7
  · obtain ⟨s, hs, rfl, rfl, rfl, rfl, rfl, rfl, rfl, rfl⟩ := words8_st hW
    by_cases h64 : (front b 70).size = 64
    · exact parts_ok s hs b hm h64 h
    · exact parts_block s hs b h64 hm h
  · by_cases h64 : (front b 70).size = 64
    · exact parts_word_ok s0 s1 s2 s3 s4 s5 s6 s7 hW b h64 hm h
    · exact parts_word_bad s0 s1 s2 s3 s4 s5 s6 s7 hW b h64 hm h
end Go.Proofs.YtfafidholldjlaaDoor
