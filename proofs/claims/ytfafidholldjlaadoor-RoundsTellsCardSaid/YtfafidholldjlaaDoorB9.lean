/- The law RoundsTells: what a call of it answers, for every state, every text, every two numbers. -/
import Derived.Test.YtfafidholldjlaaDoorR6
set_option linter.unusedVariables false
set_option linter.unusedSimpArgs false
namespace Go.Proofs.YtfafidholldjlaaDoor
open Go.RowKit
/-- The document's constants, in the variable of its answer. -/
def RefK (w : World) : Prop := ∀ i, i < 64 → w.cell? ⟨1, i, none⟩ = some (.int .i64 (Sha.K.getD i 0 : Nat))
theorem RefK.below {w w' : World} (h : RefK w) (h1 : 1 < w.heap.size) {B : Nat} (hB : 1 < B) (hb : Below B w w') : RefK w' := fun i hi => (hb.cell (p := ⟨1, i, none⟩) hB).trans (h i hi)
theorem round_both (s0 s1 s2 s3 s4 s5 s6 s7 i x : Int) : ∃ r0 r1 r2 r3 r4 r5 r6 r7 er : Int,
    (∀ (B : Nat) (aw ab : Addr) (W : World), Glob B aw ab W → Calls Tryd.prog 27 #[.agg #[.int .i64 s0, .int .i64 s1, .int .i64 s2, .int .i64 s3, .int .i64 s4, .int .i64 s5, .int .i64 s6, .int .i64 s7], .int .i64 i, .int .i64 x] W fun e W' => e = .returned (.tuple #[.agg #[.int .i64 r0, .int .i64 r1, .int .i64 r2, .int .i64 r3, .int .i64 r4, .int .i64 r5, .int .i64 r6, .int .i64 r7], .int .i64 er]) ∧ Below W.heap.size W W') ∧
    (∀ (W : World), RefK W → 1 < W.heap.size → Calls Tryd.prog 28 #[.agg #[.int .i64 s0, .int .i64 s1, .int .i64 s2, .int .i64 s3, .int .i64 s4, .int .i64 s5, .int .i64 s6, .int .i64 s7], .int .i64 i, .int .i64 x] W fun e W' => e = .returned (.tuple #[.agg #[.int .i64 r0, .int .i64 r1, .int .i64 r2, .int .i64 r3, .int .i64 r4, .int .i64 r5, .int .i64 r6, .int .i64 r7], .int .i64 er]) ∧ Below W.heap.size W W') := by
  by_cases hW : Words8 s0 s1 s2 s3 s4 s5 s6 s7
  · by_cases hn : (0 ≤ i ∧ i < 64) ∧ (0 ≤ x ∧ x ≤ 4294967295)
    · obtain ⟨s, hs, rfl, rfl, rfl, rfl, rfl, rfl, rfl, rfl⟩ := words8_st hW
      obtain ⟨n, rfl⟩ := Int.eq_ofNat_of_zero_le hn.1.1
      obtain ⟨m, rfl⟩ := Int.eq_ofNat_of_zero_le hn.2.1
      refine ⟨(s.round (Sha.K.getD n 0) m).a, (s.round (Sha.K.getD n 0) m).b, (s.round (Sha.K.getD n 0) m).c, (s.round (Sha.K.getD n 0) m).d, (s.round (Sha.K.getD n 0) m).e, (s.round (Sha.K.getD n 0) m).f, (s.round (Sha.K.getD n 0) m).g, (s.round (Sha.K.getD n 0) m).h, 0, ?_, ?_⟩
      · intro B aw ab W hG
        exact round_ok s hs n m (by omega) (by omega) hG
      · intro W hK h1
        exact ref_round_ok s hs n m (by omega) (by omega) W (hK n (by omega)) h1
    · refine ⟨0, 0, 0, 0, 0, 0, 0, 0, 11, ?_, ?_⟩
      · intro B aw ab W hG
        obtain ⟨s, hs, rfl, rfl, rfl, rfl, rfl, rfl, rfl, rfl⟩ := words8_st hW
        exact round_num s hs i x (fun e => hn ⟨⟨e.1, e.2.1⟩, e.2.2⟩) hG
      · intro W hK h1
        exact ref_round_bad s0 s1 s2 s3 s4 s5 s6 s7 i x (fun e => hn ⟨⟨e.2.1.1, by have := e.2.1.2; omega⟩, e.2.2⟩) W
  · refine ⟨0, 0, 0, 0, 0, 0, 0, 0, 11, ?_, ?_⟩
    · intro B aw ab W hG
      exact round_word s0 s1 s2 s3 s4 s5 s6 s7 i x hW hG
    · intro W hK h1
      exact ref_round_bad s0 s1 s2 s3 s4 s5 s6 s7 i x (fun e => hW e.1) W
theorem compress_both (s0 s1 s2 s3 s4 s5 s6 s7 : Int) (b : ByteArray) : ∃ r0 r1 r2 r3 r4 r5 r6 r7 er : Int,
    (∀ (B : Nat) (aw ab : Addr) (W : World), Glob B aw ab W → Calls Tryd.prog 29 #[.agg #[.int .i64 s0, .int .i64 s1, .int .i64 s2, .int .i64 s3, .int .i64 s4, .int .i64 s5, .int .i64 s6, .int .i64 s7], .string b] W fun e W' => e = .returned (.tuple #[.agg #[.int .i64 r0, .int .i64 r1, .int .i64 r2, .int .i64 r3, .int .i64 r4, .int .i64 r5, .int .i64 r6, .int .i64 r7], .int .i64 er]) ∧ Below W.heap.size W W') ∧
    (∀ (W : World), RefK W → 1 < W.heap.size → Calls Tryd.prog 30 #[.agg #[.int .i64 s0, .int .i64 s1, .int .i64 s2, .int .i64 s3, .int .i64 s4, .int .i64 s5, .int .i64 s6, .int .i64 s7], .string b] W fun e W' => e = .returned (.tuple #[.agg #[.int .i64 r0, .int .i64 r1, .int .i64 r2, .int .i64 r3, .int .i64 r4, .int .i64 r5, .int .i64 r6, .int .i64 r7], .int .i64 er]) ∧ Below W.heap.size W W') := by
  by_cases hW : Words8 s0 s1 s2 s3 s4 s5 s6 s7
  · obtain ⟨s, hs, rfl, rfl, rfl, rfl, rfl, rfl, rfl, rfl⟩ := words8_st hW
    by_cases hb : b.size = 64
    · refine ⟨(s.compress (byteAt b)).a, (s.compress (byteAt b)).b, (s.compress (byteAt b)).c, (s.compress (byteAt b)).d, (s.compress (byteAt b)).e, (s.compress (byteAt b)).f, (s.compress (byteAt b)).g, (s.compress (byteAt b)).h, 0, ?_, ?_⟩
      · intro B aw ab W hG
        exact compress_ok hG s hs b hb
      · intro W hK h1
        exact ref_compress_ok s hs b hb W hK h1
    · refine ⟨0, 0, 0, 0, 0, 0, 0, 0, 10, ?_, ?_⟩
      · intro B aw ab W hG
        exact compress_block s hs hG b hb
      · intro W hK h1
        exact ref_compress_block s hs b hb W
  · refine ⟨0, 0, 0, 0, 0, 0, 0, 0, 11, ?_, ?_⟩
    · intro B aw ab W hG
      exact compress_word s0 s1 s2 s3 s4 s5 s6 s7 hW hG b
    · intro W hK h1
      exact ref_compress_word s0 s1 s2 s3 s4 s5 s6 s7 hW b W
theorem bytes_both (s0 s1 s2 s3 s4 s5 s6 s7 : Int) : ∃ (t : ByteArray) (er : Int),
    (∀ (B : Nat) (aw ab : Addr) (W : World), Glob B aw ab W → Calls Tryd.prog 31 #[.agg #[.int .i64 s0, .int .i64 s1, .int .i64 s2, .int .i64 s3, .int .i64 s4, .int .i64 s5, .int .i64 s6, .int .i64 s7]] W fun e W' => e = .returned (.tuple #[.string t, .int .i64 er]) ∧ Below W.heap.size W W') ∧
    (∀ W : World, Calls Tryd.prog 32 #[.agg #[.int .i64 s0, .int .i64 s1, .int .i64 s2, .int .i64 s3, .int .i64 s4, .int .i64 s5, .int .i64 s6, .int .i64 s7]] W fun e W' => e = .returned (.tuple #[.string t, .int .i64 er]) ∧ Below W.heap.size W W') := by
  by_cases hW : Words8 s0 s1 s2 s3 s4 s5 s6 s7
  · obtain ⟨s, hs, rfl, rfl, rfl, rfl, rfl, rfl, rfl, rfl⟩ := words8_st hW
    refine ⟨⟨(stBytes s).toArray⟩, 0, ?_, ?_⟩
    · intro B aw ab W hG
      exact bytes_ok s hs hG
    · intro W
      exact ref_bytes_ok s hs W
  · refine ⟨⟨#[]⟩, 11, ?_, ?_⟩
    · intro B aw ab W hG
      exact bytes_bad s0 s1 s2 s3 s4 s5 s6 s7 hW hG
    · intro W
      exact ref_bytes_bad s0 s1 s2 s3 s4 s5 s6 s7 hW W
theorem drewN_below {B : Nat} {a b : World} (h : Below B a b) (hB : B ≤ b.heap.size) (n : Nat) : Below B a (b.drewN n) := h.trans ((Far.refl NoneD b).drewN n |>.to_below hB (fun _ _ e => e))
set_option maxRecDepth 100000 in
set_option maxHeartbeats 2000000 in
theorem tells_bad (s0 s1 s2 s3 s4 s5 s6 s7 i x : Int) (b : ByteArray) (hm : b.size ≤ maxLen) (h64 : (front b 70).size ≠ 64) {B : Nat} {aw ab : Addr} {w : World} (h : Glob B aw ab w) (hk : RefK w) :
    Calls Tryd.prog 3 #[.agg #[.int .i64 s0, .int .i64 s1, .int .i64 s2, .int .i64 s3, .int .i64 s4, .int .i64 s5, .int .i64 s6, .int .i64 s7], .string b, .int .i64 i, .int .i64 x] w fun e w' => e = .returned (.bool true) ∧ Below w.heap.size w w' := by
  have H := Lib.hid h
  have HM := Lib.hid hm
  have H64 := Lib.hid h64
  have HK := Lib.hid hk
  have h1 : 1 < w.heap.size := by have := h.pos; omega
  obtain ⟨r0, r1, r2, r3, r4, r5, r6, r7, er, hr1, hr2⟩ := round_both s0 s1 s2 s3 s4 s5 s6 s7 i x
  obtain ⟨q0, q1, q2, q3, q4, q5, q6, q7, eq', hq1, hq2⟩ := compress_both s0 s1 s2 s3 s4 s5 s6 s7 (front b 70)
  obtain ⟨bt, eb, ht1, ht2⟩ := bytes_both s0 s1 s2 s3 s4 s5 s6 s7
  have A1 := Lib.hid hr1
  have A2 := Lib.hid hr2
  have A3 := Lib.hid hq1
  have A4 := Lib.hid hq2
  have A5 := Lib.hid ht1
  have A6 := Lib.hid ht2
  clear h hm h64 hk hr1 hr2 hq1 hq2 ht1 ht2
  go_enter Tryd.func3, Tryd.ntmps3
  go_wp2_with fail
  refine (shown_any (H.out.below ((Below.refl B w).alloc H.out.size _))).mono ?_
  rintro e w1 ⟨rfl, hb1⟩
  have hc1 := (hb1.block w.heap.size (by simp)).trans (alloc_heap_at w (.cells #[.int .i64 s0, .int .i64 s1, .int .i64 s2, .int .i64 s3, .int .i64 s4, .int .i64 s5, .int .i64 s6, .int .i64 s7] 23) _ rfl)
  have hw1 : Below w.heap.size w w1 := ((Below.refl _ w).alloc (Nat.le_refl _) _).trans (hb1.mono (by simp))
  have FS := Lib.hid hc1
  have HW := Lib.hid hw1
  clear hb1 hc1 hw1
  go_wp2_with fail
  refine (cut_any b HM.out _).mono ?_
  rintro e w2 ⟨rfl, rfl⟩
  obtain ⟨bl, hbl⟩ : ∃ x, front b 70 = x := ⟨_, rfl⟩
  rw [hbl] at A3 A4 H64 ⊢
  clear hbl
  go_wp2_with fail
  refine (schedule_bad (H.out.below (HW.out.mono H.out.size)) bl H64.out).mono ?_
  rintro e w2 ⟨rfl, rfl⟩
  go_wp2_with fail
  refine (ref_schedule_bad bl H64.out _).mono ?_
  rintro e w2 ⟨rfl, rfl⟩
  have y0 : w1.cell? ⟨w.heap.size, 0, none⟩ = some (.int .i64 s0) := cell_of FS.out 0
  have y1 : w1.cell? ⟨w.heap.size, 1, none⟩ = some (.int .i64 s1) := cell_of FS.out 1
  have y2 : w1.cell? ⟨w.heap.size, 2, none⟩ = some (.int .i64 s2) := cell_of FS.out 2
  have y3 : w1.cell? ⟨w.heap.size, 3, none⟩ = some (.int .i64 s3) := cell_of FS.out 3
  have y4 : w1.cell? ⟨w.heap.size, 4, none⟩ = some (.int .i64 s4) := cell_of FS.out 4
  have y5 : w1.cell? ⟨w.heap.size, 5, none⟩ = some (.int .i64 s5) := cell_of FS.out 5
  have y6 : w1.cell? ⟨w.heap.size, 6, none⟩ = some (.int .i64 s6) := cell_of FS.out 6
  have y7 : w1.cell? ⟨w.heap.size, 7, none⟩ = some (.int .i64 s7) := cell_of FS.out 7
  go_wp2_with fail
  refine (A1.out _ _ _ _ (H.out.below (HW.out.mono H.out.size))).mono ?_
  rintro e w2 ⟨rfl, hb2⟩
  have xS := (hb2.block _ (lt_of_heap FS.out)).trans FS.out
  clear FS
  have FS := Lib.hid xS
  clear xS
  have hw2 := HW.out.trans (hb2.mono HW.out.size)
  clear HW
  have HW := Lib.hid hw2
  clear hb2 hw2
  clear y0 y1 y2 y3 y4 y5 y6 y7
  go_upto_region 6 with (fail)
  have xS := alloc_heap_old (.cells #[.int .i64 r0, .int .i64 r1, .int .i64 r2, .int .i64 r3, .int .i64 r4, .int .i64 r5, .int .i64 r6, .int .i64 r7] 23) FS.out
  have xN := alloc_heap_at w2 (.cells #[.int .i64 r0, .int .i64 r1, .int .i64 r2, .int .i64 r3, .int .i64 r4, .int .i64 r5, .int .i64 r6, .int .i64 r7] 23) _ rfl
  have hW := HW.out.alloc HW.out.size (.cells #[.int .i64 r0, .int .i64 r1, .int .i64 r2, .int .i64 r3, .int .i64 r4, .int .i64 r5, .int .i64 r6, .int .i64 r7] 23)
  generalize w2.alloc (.cells #[.int .i64 r0, .int .i64 r1, .int .i64 r2, .int .i64 r3, .int .i64 r4, .int .i64 r5, .int .i64 r6, .int .i64 r7] 23) = w3 at xS xN hW ⊢
  clear HW FS 
  have FS := Lib.hid xS
  have FP := Lib.hid xN
  have HW := Lib.hid hW
  clear xS xN hW
  have y0 : w3.cell? ⟨w.heap.size, 0, none⟩ = some (.int .i64 s0) := cell_of FS.out 0
  have y1 : w3.cell? ⟨w.heap.size, 1, none⟩ = some (.int .i64 s1) := cell_of FS.out 1
  have y2 : w3.cell? ⟨w.heap.size, 2, none⟩ = some (.int .i64 s2) := cell_of FS.out 2
  have y3 : w3.cell? ⟨w.heap.size, 3, none⟩ = some (.int .i64 s3) := cell_of FS.out 3
  have y4 : w3.cell? ⟨w.heap.size, 4, none⟩ = some (.int .i64 s4) := cell_of FS.out 4
  have y5 : w3.cell? ⟨w.heap.size, 5, none⟩ = some (.int .i64 s5) := cell_of FS.out 5
  have y6 : w3.cell? ⟨w.heap.size, 6, none⟩ = some (.int .i64 s6) := cell_of FS.out 6
  have y7 : w3.cell? ⟨w.heap.size, 7, none⟩ = some (.int .i64 s7) := cell_of FS.out 7
  go_wp2_with fail
  refine (A2.out _ (HK.out.below h1 h1 HW.out) (Nat.lt_of_lt_of_le h1 HW.out.size)).mono ?_
  rintro e w4 ⟨rfl, hb4⟩
  have xS := (hb4.block _ (lt_of_heap FS.out)).trans FS.out
  clear FS
  have FS := Lib.hid xS
  clear xS
  have xP := (hb4.block _ (lt_of_heap FP.out)).trans FP.out
  clear FP
  have FP := Lib.hid xP
  clear xP
  have hw4 := HW.out.trans (hb4.mono HW.out.size)
  clear HW
  have HW := Lib.hid hw4
  clear hb4 hw4
  clear y0 y1 y2 y3 y4 y5 y6 y7
  go_upto_region 7 with (fail)
  have xS := alloc_heap_old (.cells #[.int .i64 r0, .int .i64 r1, .int .i64 r2, .int .i64 r3, .int .i64 r4, .int .i64 r5, .int .i64 r6, .int .i64 r7] 23) FS.out
  have xP := alloc_heap_old (.cells #[.int .i64 r0, .int .i64 r1, .int .i64 r2, .int .i64 r3, .int .i64 r4, .int .i64 r5, .int .i64 r6, .int .i64 r7] 23) FP.out
  have xN := alloc_heap_at w4 (.cells #[.int .i64 r0, .int .i64 r1, .int .i64 r2, .int .i64 r3, .int .i64 r4, .int .i64 r5, .int .i64 r6, .int .i64 r7] 23) _ rfl
  have hW := HW.out.alloc HW.out.size (.cells #[.int .i64 r0, .int .i64 r1, .int .i64 r2, .int .i64 r3, .int .i64 r4, .int .i64 r5, .int .i64 r6, .int .i64 r7] 23)
  generalize w4.alloc (.cells #[.int .i64 r0, .int .i64 r1, .int .i64 r2, .int .i64 r3, .int .i64 r4, .int .i64 r5, .int .i64 r6, .int .i64 r7] 23) = w5 at xS xP xN hW ⊢
  clear HW FS FP 
  have FS := Lib.hid xS
  have FP := Lib.hid xP
  have FQ := Lib.hid xN
  have HW := Lib.hid hW
  clear xS xP xN hW
  have y0 : w5.cell? ⟨w.heap.size, 0, none⟩ = some (.int .i64 s0) := cell_of FS.out 0
  have y1 : w5.cell? ⟨w.heap.size, 1, none⟩ = some (.int .i64 s1) := cell_of FS.out 1
  have y2 : w5.cell? ⟨w.heap.size, 2, none⟩ = some (.int .i64 s2) := cell_of FS.out 2
  have y3 : w5.cell? ⟨w.heap.size, 3, none⟩ = some (.int .i64 s3) := cell_of FS.out 3
  have y4 : w5.cell? ⟨w.heap.size, 4, none⟩ = some (.int .i64 s4) := cell_of FS.out 4
  have y5 : w5.cell? ⟨w.heap.size, 5, none⟩ = some (.int .i64 s5) := cell_of FS.out 5
  have y6 : w5.cell? ⟨w.heap.size, 6, none⟩ = some (.int .i64 s6) := cell_of FS.out 6
  have y7 : w5.cell? ⟨w.heap.size, 7, none⟩ = some (.int .i64 s7) := cell_of FS.out 7
  go_wp2_with fail
  refine (A3.out _ _ _ _ (H.out.below (HW.out.mono H.out.size))).mono ?_
  rintro e w6 ⟨rfl, hb6⟩
  have xS := (hb6.block _ (lt_of_heap FS.out)).trans FS.out
  clear FS
  have FS := Lib.hid xS
  clear xS
  have xP := (hb6.block _ (lt_of_heap FP.out)).trans FP.out
  clear FP
  have FP := Lib.hid xP
  clear xP
  have xQ := (hb6.block _ (lt_of_heap FQ.out)).trans FQ.out
  clear FQ
  have FQ := Lib.hid xQ
  clear xQ
  have hw6 := HW.out.trans (hb6.mono HW.out.size)
  clear HW
  have HW := Lib.hid hw6
  clear hb6 hw6
  clear y0 y1 y2 y3 y4 y5 y6 y7
  go_upto_region 8 with (fail)
  have xS := alloc_heap_old (.cells #[.int .i64 q0, .int .i64 q1, .int .i64 q2, .int .i64 q3, .int .i64 q4, .int .i64 q5, .int .i64 q6, .int .i64 q7] 23) FS.out
  have xP := alloc_heap_old (.cells #[.int .i64 q0, .int .i64 q1, .int .i64 q2, .int .i64 q3, .int .i64 q4, .int .i64 q5, .int .i64 q6, .int .i64 q7] 23) FP.out
  have xQ := alloc_heap_old (.cells #[.int .i64 q0, .int .i64 q1, .int .i64 q2, .int .i64 q3, .int .i64 q4, .int .i64 q5, .int .i64 q6, .int .i64 q7] 23) FQ.out
  have xN := alloc_heap_at w6 (.cells #[.int .i64 q0, .int .i64 q1, .int .i64 q2, .int .i64 q3, .int .i64 q4, .int .i64 q5, .int .i64 q6, .int .i64 q7] 23) _ rfl
  have hW := HW.out.alloc HW.out.size (.cells #[.int .i64 q0, .int .i64 q1, .int .i64 q2, .int .i64 q3, .int .i64 q4, .int .i64 q5, .int .i64 q6, .int .i64 q7] 23)
  generalize w6.alloc (.cells #[.int .i64 q0, .int .i64 q1, .int .i64 q2, .int .i64 q3, .int .i64 q4, .int .i64 q5, .int .i64 q6, .int .i64 q7] 23) = w7 at xS xP xQ xN hW ⊢
  clear HW FS FP FQ 
  have FS := Lib.hid xS
  have FP := Lib.hid xP
  have FQ := Lib.hid xQ
  have FT := Lib.hid xN
  have HW := Lib.hid hW
  clear xS xP xQ xN hW
  have y0 : w7.cell? ⟨w.heap.size, 0, none⟩ = some (.int .i64 s0) := cell_of FS.out 0
  have y1 : w7.cell? ⟨w.heap.size, 1, none⟩ = some (.int .i64 s1) := cell_of FS.out 1
  have y2 : w7.cell? ⟨w.heap.size, 2, none⟩ = some (.int .i64 s2) := cell_of FS.out 2
  have y3 : w7.cell? ⟨w.heap.size, 3, none⟩ = some (.int .i64 s3) := cell_of FS.out 3
  have y4 : w7.cell? ⟨w.heap.size, 4, none⟩ = some (.int .i64 s4) := cell_of FS.out 4
  have y5 : w7.cell? ⟨w.heap.size, 5, none⟩ = some (.int .i64 s5) := cell_of FS.out 5
  have y6 : w7.cell? ⟨w.heap.size, 6, none⟩ = some (.int .i64 s6) := cell_of FS.out 6
  have y7 : w7.cell? ⟨w.heap.size, 7, none⟩ = some (.int .i64 s7) := cell_of FS.out 7
  go_wp2_with fail
  refine (A4.out _ (HK.out.below h1 h1 HW.out) (Nat.lt_of_lt_of_le h1 HW.out.size)).mono ?_
  rintro e w8 ⟨rfl, hb8⟩
  have xS := (hb8.block _ (lt_of_heap FS.out)).trans FS.out
  clear FS
  have FS := Lib.hid xS
  clear xS
  have xP := (hb8.block _ (lt_of_heap FP.out)).trans FP.out
  clear FP
  have FP := Lib.hid xP
  clear xP
  have xQ := (hb8.block _ (lt_of_heap FQ.out)).trans FQ.out
  clear FQ
  have FQ := Lib.hid xQ
  clear xQ
  have xT := (hb8.block _ (lt_of_heap FT.out)).trans FT.out
  clear FT
  have FT := Lib.hid xT
  clear xT
  have hw8 := HW.out.trans (hb8.mono HW.out.size)
  clear HW
  have HW := Lib.hid hw8
  clear hb8 hw8
  clear y0 y1 y2 y3 y4 y5 y6 y7
  go_upto_region 9 with (fail)
  have xS := alloc_heap_old (.cells #[.int .i64 q0, .int .i64 q1, .int .i64 q2, .int .i64 q3, .int .i64 q4, .int .i64 q5, .int .i64 q6, .int .i64 q7] 23) FS.out
  have xP := alloc_heap_old (.cells #[.int .i64 q0, .int .i64 q1, .int .i64 q2, .int .i64 q3, .int .i64 q4, .int .i64 q5, .int .i64 q6, .int .i64 q7] 23) FP.out
  have xQ := alloc_heap_old (.cells #[.int .i64 q0, .int .i64 q1, .int .i64 q2, .int .i64 q3, .int .i64 q4, .int .i64 q5, .int .i64 q6, .int .i64 q7] 23) FQ.out
  have xT := alloc_heap_old (.cells #[.int .i64 q0, .int .i64 q1, .int .i64 q2, .int .i64 q3, .int .i64 q4, .int .i64 q5, .int .i64 q6, .int .i64 q7] 23) FT.out
  have xN := alloc_heap_at w8 (.cells #[.int .i64 q0, .int .i64 q1, .int .i64 q2, .int .i64 q3, .int .i64 q4, .int .i64 q5, .int .i64 q6, .int .i64 q7] 23) _ rfl
  have hW := HW.out.alloc HW.out.size (.cells #[.int .i64 q0, .int .i64 q1, .int .i64 q2, .int .i64 q3, .int .i64 q4, .int .i64 q5, .int .i64 q6, .int .i64 q7] 23)
  generalize w8.alloc (.cells #[.int .i64 q0, .int .i64 q1, .int .i64 q2, .int .i64 q3, .int .i64 q4, .int .i64 q5, .int .i64 q6, .int .i64 q7] 23) = w9 at xS xP xQ xT xN hW ⊢
  clear HW FS FP FQ FT 
  have FS := Lib.hid xS
  have FP := Lib.hid xP
  have FQ := Lib.hid xQ
  have FT := Lib.hid xT
  have FU := Lib.hid xN
  have HW := Lib.hid hW
  clear xS xP xQ xT xN hW
  have y0 : w9.cell? ⟨w.heap.size, 0, none⟩ = some (.int .i64 s0) := cell_of FS.out 0
  have y1 : w9.cell? ⟨w.heap.size, 1, none⟩ = some (.int .i64 s1) := cell_of FS.out 1
  have y2 : w9.cell? ⟨w.heap.size, 2, none⟩ = some (.int .i64 s2) := cell_of FS.out 2
  have y3 : w9.cell? ⟨w.heap.size, 3, none⟩ = some (.int .i64 s3) := cell_of FS.out 3
  have y4 : w9.cell? ⟨w.heap.size, 4, none⟩ = some (.int .i64 s4) := cell_of FS.out 4
  have y5 : w9.cell? ⟨w.heap.size, 5, none⟩ = some (.int .i64 s5) := cell_of FS.out 5
  have y6 : w9.cell? ⟨w.heap.size, 6, none⟩ = some (.int .i64 s6) := cell_of FS.out 6
  have y7 : w9.cell? ⟨w.heap.size, 7, none⟩ = some (.int .i64 s7) := cell_of FS.out 7
  go_wp2_with fail
  refine (A5.out _ _ _ _ (H.out.below (HW.out.mono H.out.size))).mono ?_
  rintro e w10 ⟨rfl, hb10⟩
  have xS := (hb10.block _ (lt_of_heap FS.out)).trans FS.out
  clear FS
  have FS := Lib.hid xS
  clear xS
  have xP := (hb10.block _ (lt_of_heap FP.out)).trans FP.out
  clear FP
  have FP := Lib.hid xP
  clear xP
  have xQ := (hb10.block _ (lt_of_heap FQ.out)).trans FQ.out
  clear FQ
  have FQ := Lib.hid xQ
  clear xQ
  have xT := (hb10.block _ (lt_of_heap FT.out)).trans FT.out
  clear FT
  have FT := Lib.hid xT
  clear xT
  have xU := (hb10.block _ (lt_of_heap FU.out)).trans FU.out
  clear FU
  have FU := Lib.hid xU
  clear xU
  have hw10 := HW.out.trans (hb10.mono HW.out.size)
  clear HW
  have HW := Lib.hid hw10
  clear hb10 hw10
  clear y0 y1 y2 y3 y4 y5 y6 y7
  have y0 : w10.cell? ⟨w.heap.size, 0, none⟩ = some (.int .i64 s0) := cell_of FS.out 0
  have y1 : w10.cell? ⟨w.heap.size, 1, none⟩ = some (.int .i64 s1) := cell_of FS.out 1
  have y2 : w10.cell? ⟨w.heap.size, 2, none⟩ = some (.int .i64 s2) := cell_of FS.out 2
  have y3 : w10.cell? ⟨w.heap.size, 3, none⟩ = some (.int .i64 s3) := cell_of FS.out 3
  have y4 : w10.cell? ⟨w.heap.size, 4, none⟩ = some (.int .i64 s4) := cell_of FS.out 4
  have y5 : w10.cell? ⟨w.heap.size, 5, none⟩ = some (.int .i64 s5) := cell_of FS.out 5
  have y6 : w10.cell? ⟨w.heap.size, 6, none⟩ = some (.int .i64 s6) := cell_of FS.out 6
  have y7 : w10.cell? ⟨w.heap.size, 7, none⟩ = some (.int .i64 s7) := cell_of FS.out 7
  go_wp2_with fail
  refine (A6.out _).mono ?_
  rintro e w11 ⟨rfl, hb11⟩
  have xS := (hb11.block _ (lt_of_heap FS.out)).trans FS.out
  clear FS
  have FS := Lib.hid xS
  clear xS
  have xP := (hb11.block _ (lt_of_heap FP.out)).trans FP.out
  clear FP
  have FP := Lib.hid xP
  clear xP
  have xQ := (hb11.block _ (lt_of_heap FQ.out)).trans FQ.out
  clear FQ
  have FQ := Lib.hid xQ
  clear xQ
  have xT := (hb11.block _ (lt_of_heap FT.out)).trans FT.out
  clear FT
  have FT := Lib.hid xT
  clear xT
  have xU := (hb11.block _ (lt_of_heap FU.out)).trans FU.out
  clear FU
  have FU := Lib.hid xU
  clear xU
  have hw11 := HW.out.trans (hb11.mono HW.out.size)
  clear HW
  have HW := Lib.hid hw11
  clear hb11 hw11
  clear y0 y1 y2 y3 y4 y5 y6 y7
  go_wp2_with fail
  refine (first_any _).mono ?_
  rintro e w12 ⟨rfl, hb12⟩
  have xS := (hb12.block _ (lt_of_heap FS.out)).trans FS.out
  clear FS
  have FS := Lib.hid xS
  clear xS
  have xP := (hb12.block _ (lt_of_heap FP.out)).trans FP.out
  clear FP
  have FP := Lib.hid xP
  clear xP
  have xQ := (hb12.block _ (lt_of_heap FQ.out)).trans FQ.out
  clear FQ
  have FQ := Lib.hid xQ
  clear xQ
  have xT := (hb12.block _ (lt_of_heap FT.out)).trans FT.out
  clear FT
  have FT := Lib.hid xT
  clear xT
  have xU := (hb12.block _ (lt_of_heap FU.out)).trans FU.out
  clear FU
  have FU := Lib.hid xU
  clear xU
  have hw12 := HW.out.trans (hb12.mono HW.out.size)
  clear HW
  have HW := Lib.hid hw12
  clear hb12 hw12
  go_wp2_with fail
  refine (ref_first _).mono ?_
  rintro e w13 ⟨rfl, hb13⟩
  have xS := (hb13.block _ (lt_of_heap FS.out)).trans FS.out
  clear FS
  have FS := Lib.hid xS
  clear xS
  have xP := (hb13.block _ (lt_of_heap FP.out)).trans FP.out
  clear FP
  have FP := Lib.hid xP
  clear xP
  have xQ := (hb13.block _ (lt_of_heap FQ.out)).trans FQ.out
  clear FQ
  have FQ := Lib.hid xQ
  clear xQ
  have xT := (hb13.block _ (lt_of_heap FT.out)).trans FT.out
  clear FT
  have FT := Lib.hid xT
  clear xT
  have xU := (hb13.block _ (lt_of_heap FU.out)).trans FU.out
  clear FU
  have FU := Lib.hid xU
  clear xU
  have hw13 := HW.out.trans (hb13.mono HW.out.size)
  clear HW
  have HW := Lib.hid hw13
  clear hb13 hw13
  have he1 : eq8 [1779033703, 3144134277, 1013904242, 2773480762, 1359893119, 2600822924, 528734635, 1541459225] [1779033703, 3144134277, 1013904242, 2773480762, 1359893119, 2600822924, 528734635, 1541459225] = true := eq8_refl _
  go_wp2_with fail
  refine (ref_ints_nil _).mono ?_
  rintro e w99 ⟨rfl, rfl⟩
  have hwq := HW.out
  have HWQ := Lib.hid hwq
  clear hwq
  have y0 : w13.cell? ⟨w2.heap.size, 0, none⟩ = some (.int .i64 r0) := cell_of FP.out 0
  have y1 : w13.cell? ⟨w2.heap.size, 1, none⟩ = some (.int .i64 r1) := cell_of FP.out 1
  have y2 : w13.cell? ⟨w2.heap.size, 2, none⟩ = some (.int .i64 r2) := cell_of FP.out 2
  have y3 : w13.cell? ⟨w2.heap.size, 3, none⟩ = some (.int .i64 r3) := cell_of FP.out 3
  have y4 : w13.cell? ⟨w2.heap.size, 4, none⟩ = some (.int .i64 r4) := cell_of FP.out 4
  have y5 : w13.cell? ⟨w2.heap.size, 5, none⟩ = some (.int .i64 r5) := cell_of FP.out 5
  have y6 : w13.cell? ⟨w2.heap.size, 6, none⟩ = some (.int .i64 r6) := cell_of FP.out 6
  have y7 : w13.cell? ⟨w2.heap.size, 7, none⟩ = some (.int .i64 r7) := cell_of FP.out 7
  have z0 : w13.cell? ⟨w4.heap.size, 0, none⟩ = some (.int .i64 r0) := cell_of FQ.out 0
  have z1 : w13.cell? ⟨w4.heap.size, 1, none⟩ = some (.int .i64 r1) := cell_of FQ.out 1
  have z2 : w13.cell? ⟨w4.heap.size, 2, none⟩ = some (.int .i64 r2) := cell_of FQ.out 2
  have z3 : w13.cell? ⟨w4.heap.size, 3, none⟩ = some (.int .i64 r3) := cell_of FQ.out 3
  have z4 : w13.cell? ⟨w4.heap.size, 4, none⟩ = some (.int .i64 r4) := cell_of FQ.out 4
  have z5 : w13.cell? ⟨w4.heap.size, 5, none⟩ = some (.int .i64 r5) := cell_of FQ.out 5
  have z6 : w13.cell? ⟨w4.heap.size, 6, none⟩ = some (.int .i64 r6) := cell_of FQ.out 6
  have z7 : w13.cell? ⟨w4.heap.size, 7, none⟩ = some (.int .i64 r7) := cell_of FQ.out 7
  have u0 : w13.cell? ⟨w6.heap.size, 0, none⟩ = some (.int .i64 q0) := cell_of FT.out 0
  have u1 : w13.cell? ⟨w6.heap.size, 1, none⟩ = some (.int .i64 q1) := cell_of FT.out 1
  have u2 : w13.cell? ⟨w6.heap.size, 2, none⟩ = some (.int .i64 q2) := cell_of FT.out 2
  have u3 : w13.cell? ⟨w6.heap.size, 3, none⟩ = some (.int .i64 q3) := cell_of FT.out 3
  have u4 : w13.cell? ⟨w6.heap.size, 4, none⟩ = some (.int .i64 q4) := cell_of FT.out 4
  have u5 : w13.cell? ⟨w6.heap.size, 5, none⟩ = some (.int .i64 q5) := cell_of FT.out 5
  have u6 : w13.cell? ⟨w6.heap.size, 6, none⟩ = some (.int .i64 q6) := cell_of FT.out 6
  have u7 : w13.cell? ⟨w6.heap.size, 7, none⟩ = some (.int .i64 q7) := cell_of FT.out 7
  have v0 : w13.cell? ⟨w8.heap.size, 0, none⟩ = some (.int .i64 q0) := cell_of FU.out 0
  have v1 : w13.cell? ⟨w8.heap.size, 1, none⟩ = some (.int .i64 q1) := cell_of FU.out 1
  have v2 : w13.cell? ⟨w8.heap.size, 2, none⟩ = some (.int .i64 q2) := cell_of FU.out 2
  have v3 : w13.cell? ⟨w8.heap.size, 3, none⟩ = some (.int .i64 q3) := cell_of FU.out 3
  have v4 : w13.cell? ⟨w8.heap.size, 4, none⟩ = some (.int .i64 q4) := cell_of FU.out 4
  have v5 : w13.cell? ⟨w8.heap.size, 5, none⟩ = some (.int .i64 q5) := cell_of FU.out 5
  have v6 : w13.cell? ⟨w8.heap.size, 6, none⟩ = some (.int .i64 q6) := cell_of FU.out 6
  have v7 : w13.cell? ⟨w8.heap.size, 7, none⟩ = some (.int .i64 q7) := cell_of FU.out 7
  have he2 : eq8 [r0, r1, r2, r3, r4, r5, r6, r7] [r0, r1, r2, r3, r4, r5, r6, r7] = true := eq8_refl _
  have he3 : eq8 [q0, q1, q2, q3, q4, q5, q6, q7] [q0, q1, q2, q3, q4, q5, q6, q7] = true := eq8_refl _
  go_wp2_with fail
  exact bodyPost_ret (v := .bool true) (by simp [results, Tryd.results3, go_sem]) rfl ⟨rfl, HWQ.out⟩
set_option maxRecDepth 100000 in
set_option maxHeartbeats 2000000 in
theorem tells_ok (s0 s1 s2 s3 s4 s5 s6 s7 i x : Int) (b : ByteArray) (hm : b.size ≤ maxLen) (h64 : (front b 70).size = 64) {B : Nat} {aw ab : Addr} {w : World} (h : Glob B aw ab w) (hk : RefK w) :
    Calls Tryd.prog 3 #[.agg #[.int .i64 s0, .int .i64 s1, .int .i64 s2, .int .i64 s3, .int .i64 s4, .int .i64 s5, .int .i64 s6, .int .i64 s7], .string b, .int .i64 i, .int .i64 x] w fun e w' => e = .returned (.bool true) ∧ Below w.heap.size w w' := by
  have H := Lib.hid h
  have HM := Lib.hid hm
  have H64 := Lib.hid h64
  have HK := Lib.hid hk
  have h1 : 1 < w.heap.size := by have := h.pos; omega
  obtain ⟨r0, r1, r2, r3, r4, r5, r6, r7, er, hr1, hr2⟩ := round_both s0 s1 s2 s3 s4 s5 s6 s7 i x
  obtain ⟨q0, q1, q2, q3, q4, q5, q6, q7, eq', hq1, hq2⟩ := compress_both s0 s1 s2 s3 s4 s5 s6 s7 (front b 70)
  obtain ⟨bt, eb, ht1, ht2⟩ := bytes_both s0 s1 s2 s3 s4 s5 s6 s7
  have A1 := Lib.hid hr1
  have A2 := Lib.hid hr2
  have A3 := Lib.hid hq1
  have A4 := Lib.hid hq2
  have A5 := Lib.hid ht1
  have A6 := Lib.hid ht2
  clear h hm h64 hk hr1 hr2 hq1 hq2 ht1 ht2
  go_enter Tryd.func3, Tryd.ntmps3
  go_wp2_with fail
  refine (shown_any (H.out.below ((Below.refl B w).alloc H.out.size _))).mono ?_
  rintro e w1 ⟨rfl, hb1⟩
  have hc1 := (hb1.block w.heap.size (by simp)).trans (alloc_heap_at w (.cells #[.int .i64 s0, .int .i64 s1, .int .i64 s2, .int .i64 s3, .int .i64 s4, .int .i64 s5, .int .i64 s6, .int .i64 s7] 23) _ rfl)
  have hw1 : Below w.heap.size w w1 := ((Below.refl _ w).alloc (Nat.le_refl _) _).trans (hb1.mono (by simp))
  have FS := Lib.hid hc1
  have HW := Lib.hid hw1
  clear hb1 hc1 hw1
  go_wp2_with fail
  refine (cut_any b HM.out _).mono ?_
  rintro e w2 ⟨rfl, rfl⟩
  obtain ⟨bl, hbl⟩ : ∃ x, front b 70 = x := ⟨_, rfl⟩
  rw [hbl] at A3 A4 H64 ⊢
  clear hbl
  go_wp2_with fail
  refine (schedule_ok (H.out.below (HW.out.mono H.out.size)) bl H64.out).mono ?_
  rintro e w2 ⟨ga, ca, rfl, hga, zga, rga, hb2⟩
  have xS := (hb2.block _ (lt_of_heap FS.out)).trans FS.out
  clear FS
  have FS := Lib.hid xS
  clear xS
  have hw2 := HW.out.trans (hb2.mono HW.out.size)
  clear HW
  have HW := Lib.hid hw2
  clear hb2 hw2
  have Rga := Lib.hid rga
  have Zga := Lib.hid zga
  clear rga zga hga
  go_wp2_with fail
  refine (ref_schedule_ok bl H64.out _).mono ?_
  rintro e w3 ⟨gb, cb, rfl, hgb, zgb, rgb, hb3⟩
  have xS := (hb3.block _ (lt_of_heap FS.out)).trans FS.out
  clear FS
  have FS := Lib.hid xS
  clear xS
  have xga := fun k hk => (hb3.cell (p := ⟨ga, k, none⟩) Zga.out).trans (Rga.out k hk)
  have yga := Nat.lt_of_lt_of_le Zga.out hb3.size
  clear Rga Zga
  have Rga := Lib.hid xga
  have Zga := Lib.hid yga
  clear xga yga
  have hw3 := HW.out.trans (hb3.mono HW.out.size)
  clear HW
  have HW := Lib.hid hw3
  clear hb3 hw3
  have Rgb := Lib.hid rgb
  have Zgb := Lib.hid zgb
  clear rgb zgb hgb
  have y0 : w3.cell? ⟨w.heap.size, 0, none⟩ = some (.int .i64 s0) := cell_of FS.out 0
  have y1 : w3.cell? ⟨w.heap.size, 1, none⟩ = some (.int .i64 s1) := cell_of FS.out 1
  have y2 : w3.cell? ⟨w.heap.size, 2, none⟩ = some (.int .i64 s2) := cell_of FS.out 2
  have y3 : w3.cell? ⟨w.heap.size, 3, none⟩ = some (.int .i64 s3) := cell_of FS.out 3
  have y4 : w3.cell? ⟨w.heap.size, 4, none⟩ = some (.int .i64 s4) := cell_of FS.out 4
  have y5 : w3.cell? ⟨w.heap.size, 5, none⟩ = some (.int .i64 s5) := cell_of FS.out 5
  have y6 : w3.cell? ⟨w.heap.size, 6, none⟩ = some (.int .i64 s6) := cell_of FS.out 6
  have y7 : w3.cell? ⟨w.heap.size, 7, none⟩ = some (.int .i64 s7) := cell_of FS.out 7
  go_wp2_with fail
  refine (A1.out _ _ _ _ (H.out.below (HW.out.mono H.out.size))).mono ?_
  rintro e w4 ⟨rfl, hb4⟩
  have xS := (hb4.block _ (lt_of_heap FS.out)).trans FS.out
  clear FS
  have FS := Lib.hid xS
  clear xS
  have xga := fun k hk => (hb4.cell (p := ⟨ga, k, none⟩) Zga.out).trans (Rga.out k hk)
  have yga := Nat.lt_of_lt_of_le Zga.out hb4.size
  clear Rga Zga
  have Rga := Lib.hid xga
  have Zga := Lib.hid yga
  clear xga yga
  have xgb := fun k hk => (hb4.cell (p := ⟨gb, k, none⟩) Zgb.out).trans (Rgb.out k hk)
  have ygb := Nat.lt_of_lt_of_le Zgb.out hb4.size
  clear Rgb Zgb
  have Rgb := Lib.hid xgb
  have Zgb := Lib.hid ygb
  clear xgb ygb
  have hw4 := HW.out.trans (hb4.mono HW.out.size)
  clear HW
  have HW := Lib.hid hw4
  clear hb4 hw4
  clear y0 y1 y2 y3 y4 y5 y6 y7
  go_upto_region 6 with (fail)
  have xS := alloc_heap_old (.cells #[.int .i64 r0, .int .i64 r1, .int .i64 r2, .int .i64 r3, .int .i64 r4, .int .i64 r5, .int .i64 r6, .int .i64 r7] 23) FS.out
  have xN := alloc_heap_at w4 (.cells #[.int .i64 r0, .int .i64 r1, .int .i64 r2, .int .i64 r3, .int .i64 r4, .int .i64 r5, .int .i64 r6, .int .i64 r7] 23) _ rfl
  have hW := HW.out.alloc HW.out.size (.cells #[.int .i64 r0, .int .i64 r1, .int .i64 r2, .int .i64 r3, .int .i64 r4, .int .i64 r5, .int .i64 r6, .int .i64 r7] 23)
  have xga := fun k hk => new_past (o := (.cells #[.int .i64 r0, .int .i64 r1, .int .i64 r2, .int .i64 r3, .int .i64 r4, .int .i64 r5, .int .i64 r6, .int .i64 r7] 23)) Zga.out (Rga.out k hk)
  have yga : ga < (w4.alloc (.cells #[.int .i64 r0, .int .i64 r1, .int .i64 r2, .int .i64 r3, .int .i64 r4, .int .i64 r5, .int .i64 r6, .int .i64 r7] 23)).heap.size := by have := Zga.out; simp; omega
  have xgb := fun k hk => new_past (o := (.cells #[.int .i64 r0, .int .i64 r1, .int .i64 r2, .int .i64 r3, .int .i64 r4, .int .i64 r5, .int .i64 r6, .int .i64 r7] 23)) Zgb.out (Rgb.out k hk)
  have ygb : gb < (w4.alloc (.cells #[.int .i64 r0, .int .i64 r1, .int .i64 r2, .int .i64 r3, .int .i64 r4, .int .i64 r5, .int .i64 r6, .int .i64 r7] 23)).heap.size := by have := Zgb.out; simp; omega
  generalize w4.alloc (.cells #[.int .i64 r0, .int .i64 r1, .int .i64 r2, .int .i64 r3, .int .i64 r4, .int .i64 r5, .int .i64 r6, .int .i64 r7] 23) = w5 at xS xN hW xga yga xgb ygb ⊢
  clear HW FS Rga Zga Rgb Zgb
  have FS := Lib.hid xS
  have Rga := Lib.hid xga
  have Zga := Lib.hid yga
  have Rgb := Lib.hid xgb
  have Zgb := Lib.hid ygb
  have FP := Lib.hid xN
  have HW := Lib.hid hW
  clear xS xN hW xga yga xgb ygb
  have y0 : w5.cell? ⟨w.heap.size, 0, none⟩ = some (.int .i64 s0) := cell_of FS.out 0
  have y1 : w5.cell? ⟨w.heap.size, 1, none⟩ = some (.int .i64 s1) := cell_of FS.out 1
  have y2 : w5.cell? ⟨w.heap.size, 2, none⟩ = some (.int .i64 s2) := cell_of FS.out 2
  have y3 : w5.cell? ⟨w.heap.size, 3, none⟩ = some (.int .i64 s3) := cell_of FS.out 3
  have y4 : w5.cell? ⟨w.heap.size, 4, none⟩ = some (.int .i64 s4) := cell_of FS.out 4
  have y5 : w5.cell? ⟨w.heap.size, 5, none⟩ = some (.int .i64 s5) := cell_of FS.out 5
  have y6 : w5.cell? ⟨w.heap.size, 6, none⟩ = some (.int .i64 s6) := cell_of FS.out 6
  have y7 : w5.cell? ⟨w.heap.size, 7, none⟩ = some (.int .i64 s7) := cell_of FS.out 7
  go_wp2_with fail
  refine (A2.out _ (HK.out.below h1 h1 HW.out) (Nat.lt_of_lt_of_le h1 HW.out.size)).mono ?_
  rintro e w6 ⟨rfl, hb6⟩
  have xS := (hb6.block _ (lt_of_heap FS.out)).trans FS.out
  clear FS
  have FS := Lib.hid xS
  clear xS
  have xP := (hb6.block _ (lt_of_heap FP.out)).trans FP.out
  clear FP
  have FP := Lib.hid xP
  clear xP
  have xga := fun k hk => (hb6.cell (p := ⟨ga, k, none⟩) Zga.out).trans (Rga.out k hk)
  have yga := Nat.lt_of_lt_of_le Zga.out hb6.size
  clear Rga Zga
  have Rga := Lib.hid xga
  have Zga := Lib.hid yga
  clear xga yga
  have xgb := fun k hk => (hb6.cell (p := ⟨gb, k, none⟩) Zgb.out).trans (Rgb.out k hk)
  have ygb := Nat.lt_of_lt_of_le Zgb.out hb6.size
  clear Rgb Zgb
  have Rgb := Lib.hid xgb
  have Zgb := Lib.hid ygb
  clear xgb ygb
  have hw6 := HW.out.trans (hb6.mono HW.out.size)
  clear HW
  have HW := Lib.hid hw6
  clear hb6 hw6
  clear y0 y1 y2 y3 y4 y5 y6 y7
  go_upto_region 7 with (fail)
  have xS := alloc_heap_old (.cells #[.int .i64 r0, .int .i64 r1, .int .i64 r2, .int .i64 r3, .int .i64 r4, .int .i64 r5, .int .i64 r6, .int .i64 r7] 23) FS.out
  have xP := alloc_heap_old (.cells #[.int .i64 r0, .int .i64 r1, .int .i64 r2, .int .i64 r3, .int .i64 r4, .int .i64 r5, .int .i64 r6, .int .i64 r7] 23) FP.out
  have xN := alloc_heap_at w6 (.cells #[.int .i64 r0, .int .i64 r1, .int .i64 r2, .int .i64 r3, .int .i64 r4, .int .i64 r5, .int .i64 r6, .int .i64 r7] 23) _ rfl
  have hW := HW.out.alloc HW.out.size (.cells #[.int .i64 r0, .int .i64 r1, .int .i64 r2, .int .i64 r3, .int .i64 r4, .int .i64 r5, .int .i64 r6, .int .i64 r7] 23)
  have xga := fun k hk => new_past (o := (.cells #[.int .i64 r0, .int .i64 r1, .int .i64 r2, .int .i64 r3, .int .i64 r4, .int .i64 r5, .int .i64 r6, .int .i64 r7] 23)) Zga.out (Rga.out k hk)
  have yga : ga < (w6.alloc (.cells #[.int .i64 r0, .int .i64 r1, .int .i64 r2, .int .i64 r3, .int .i64 r4, .int .i64 r5, .int .i64 r6, .int .i64 r7] 23)).heap.size := by have := Zga.out; simp; omega
  have xgb := fun k hk => new_past (o := (.cells #[.int .i64 r0, .int .i64 r1, .int .i64 r2, .int .i64 r3, .int .i64 r4, .int .i64 r5, .int .i64 r6, .int .i64 r7] 23)) Zgb.out (Rgb.out k hk)
  have ygb : gb < (w6.alloc (.cells #[.int .i64 r0, .int .i64 r1, .int .i64 r2, .int .i64 r3, .int .i64 r4, .int .i64 r5, .int .i64 r6, .int .i64 r7] 23)).heap.size := by have := Zgb.out; simp; omega
  generalize w6.alloc (.cells #[.int .i64 r0, .int .i64 r1, .int .i64 r2, .int .i64 r3, .int .i64 r4, .int .i64 r5, .int .i64 r6, .int .i64 r7] 23) = w7 at xS xP xN hW xga yga xgb ygb ⊢
  clear HW FS FP Rga Zga Rgb Zgb
  have FS := Lib.hid xS
  have FP := Lib.hid xP
  have Rga := Lib.hid xga
  have Zga := Lib.hid yga
  have Rgb := Lib.hid xgb
  have Zgb := Lib.hid ygb
  have FQ := Lib.hid xN
  have HW := Lib.hid hW
  clear xS xP xN hW xga yga xgb ygb
  have y0 : w7.cell? ⟨w.heap.size, 0, none⟩ = some (.int .i64 s0) := cell_of FS.out 0
  have y1 : w7.cell? ⟨w.heap.size, 1, none⟩ = some (.int .i64 s1) := cell_of FS.out 1
  have y2 : w7.cell? ⟨w.heap.size, 2, none⟩ = some (.int .i64 s2) := cell_of FS.out 2
  have y3 : w7.cell? ⟨w.heap.size, 3, none⟩ = some (.int .i64 s3) := cell_of FS.out 3
  have y4 : w7.cell? ⟨w.heap.size, 4, none⟩ = some (.int .i64 s4) := cell_of FS.out 4
  have y5 : w7.cell? ⟨w.heap.size, 5, none⟩ = some (.int .i64 s5) := cell_of FS.out 5
  have y6 : w7.cell? ⟨w.heap.size, 6, none⟩ = some (.int .i64 s6) := cell_of FS.out 6
  have y7 : w7.cell? ⟨w.heap.size, 7, none⟩ = some (.int .i64 s7) := cell_of FS.out 7
  go_wp2_with fail
  refine (A3.out _ _ _ _ (H.out.below (HW.out.mono H.out.size))).mono ?_
  rintro e w8 ⟨rfl, hb8⟩
  have xS := (hb8.block _ (lt_of_heap FS.out)).trans FS.out
  clear FS
  have FS := Lib.hid xS
  clear xS
  have xP := (hb8.block _ (lt_of_heap FP.out)).trans FP.out
  clear FP
  have FP := Lib.hid xP
  clear xP
  have xQ := (hb8.block _ (lt_of_heap FQ.out)).trans FQ.out
  clear FQ
  have FQ := Lib.hid xQ
  clear xQ
  have xga := fun k hk => (hb8.cell (p := ⟨ga, k, none⟩) Zga.out).trans (Rga.out k hk)
  have yga := Nat.lt_of_lt_of_le Zga.out hb8.size
  clear Rga Zga
  have Rga := Lib.hid xga
  have Zga := Lib.hid yga
  clear xga yga
  have xgb := fun k hk => (hb8.cell (p := ⟨gb, k, none⟩) Zgb.out).trans (Rgb.out k hk)
  have ygb := Nat.lt_of_lt_of_le Zgb.out hb8.size
  clear Rgb Zgb
  have Rgb := Lib.hid xgb
  have Zgb := Lib.hid ygb
  clear xgb ygb
  have hw8 := HW.out.trans (hb8.mono HW.out.size)
  clear HW
  have HW := Lib.hid hw8
  clear hb8 hw8
  clear y0 y1 y2 y3 y4 y5 y6 y7
  go_upto_region 8 with (fail)
  have xS := alloc_heap_old (.cells #[.int .i64 q0, .int .i64 q1, .int .i64 q2, .int .i64 q3, .int .i64 q4, .int .i64 q5, .int .i64 q6, .int .i64 q7] 23) FS.out
  have xP := alloc_heap_old (.cells #[.int .i64 q0, .int .i64 q1, .int .i64 q2, .int .i64 q3, .int .i64 q4, .int .i64 q5, .int .i64 q6, .int .i64 q7] 23) FP.out
  have xQ := alloc_heap_old (.cells #[.int .i64 q0, .int .i64 q1, .int .i64 q2, .int .i64 q3, .int .i64 q4, .int .i64 q5, .int .i64 q6, .int .i64 q7] 23) FQ.out
  have xN := alloc_heap_at w8 (.cells #[.int .i64 q0, .int .i64 q1, .int .i64 q2, .int .i64 q3, .int .i64 q4, .int .i64 q5, .int .i64 q6, .int .i64 q7] 23) _ rfl
  have hW := HW.out.alloc HW.out.size (.cells #[.int .i64 q0, .int .i64 q1, .int .i64 q2, .int .i64 q3, .int .i64 q4, .int .i64 q5, .int .i64 q6, .int .i64 q7] 23)
  have xga := fun k hk => new_past (o := (.cells #[.int .i64 q0, .int .i64 q1, .int .i64 q2, .int .i64 q3, .int .i64 q4, .int .i64 q5, .int .i64 q6, .int .i64 q7] 23)) Zga.out (Rga.out k hk)
  have yga : ga < (w8.alloc (.cells #[.int .i64 q0, .int .i64 q1, .int .i64 q2, .int .i64 q3, .int .i64 q4, .int .i64 q5, .int .i64 q6, .int .i64 q7] 23)).heap.size := by have := Zga.out; simp; omega
  have xgb := fun k hk => new_past (o := (.cells #[.int .i64 q0, .int .i64 q1, .int .i64 q2, .int .i64 q3, .int .i64 q4, .int .i64 q5, .int .i64 q6, .int .i64 q7] 23)) Zgb.out (Rgb.out k hk)
  have ygb : gb < (w8.alloc (.cells #[.int .i64 q0, .int .i64 q1, .int .i64 q2, .int .i64 q3, .int .i64 q4, .int .i64 q5, .int .i64 q6, .int .i64 q7] 23)).heap.size := by have := Zgb.out; simp; omega
  generalize w8.alloc (.cells #[.int .i64 q0, .int .i64 q1, .int .i64 q2, .int .i64 q3, .int .i64 q4, .int .i64 q5, .int .i64 q6, .int .i64 q7] 23) = w9 at xS xP xQ xN hW xga yga xgb ygb ⊢
  clear HW FS FP FQ Rga Zga Rgb Zgb
  have FS := Lib.hid xS
  have FP := Lib.hid xP
  have FQ := Lib.hid xQ
  have Rga := Lib.hid xga
  have Zga := Lib.hid yga
  have Rgb := Lib.hid xgb
  have Zgb := Lib.hid ygb
  have FT := Lib.hid xN
  have HW := Lib.hid hW
  clear xS xP xQ xN hW xga yga xgb ygb
  have y0 : w9.cell? ⟨w.heap.size, 0, none⟩ = some (.int .i64 s0) := cell_of FS.out 0
  have y1 : w9.cell? ⟨w.heap.size, 1, none⟩ = some (.int .i64 s1) := cell_of FS.out 1
  have y2 : w9.cell? ⟨w.heap.size, 2, none⟩ = some (.int .i64 s2) := cell_of FS.out 2
  have y3 : w9.cell? ⟨w.heap.size, 3, none⟩ = some (.int .i64 s3) := cell_of FS.out 3
  have y4 : w9.cell? ⟨w.heap.size, 4, none⟩ = some (.int .i64 s4) := cell_of FS.out 4
  have y5 : w9.cell? ⟨w.heap.size, 5, none⟩ = some (.int .i64 s5) := cell_of FS.out 5
  have y6 : w9.cell? ⟨w.heap.size, 6, none⟩ = some (.int .i64 s6) := cell_of FS.out 6
  have y7 : w9.cell? ⟨w.heap.size, 7, none⟩ = some (.int .i64 s7) := cell_of FS.out 7
  go_wp2_with fail
  refine (A4.out _ (HK.out.below h1 h1 HW.out) (Nat.lt_of_lt_of_le h1 HW.out.size)).mono ?_
  rintro e w10 ⟨rfl, hb10⟩
  have xS := (hb10.block _ (lt_of_heap FS.out)).trans FS.out
  clear FS
  have FS := Lib.hid xS
  clear xS
  have xP := (hb10.block _ (lt_of_heap FP.out)).trans FP.out
  clear FP
  have FP := Lib.hid xP
  clear xP
  have xQ := (hb10.block _ (lt_of_heap FQ.out)).trans FQ.out
  clear FQ
  have FQ := Lib.hid xQ
  clear xQ
  have xT := (hb10.block _ (lt_of_heap FT.out)).trans FT.out
  clear FT
  have FT := Lib.hid xT
  clear xT
  have xga := fun k hk => (hb10.cell (p := ⟨ga, k, none⟩) Zga.out).trans (Rga.out k hk)
  have yga := Nat.lt_of_lt_of_le Zga.out hb10.size
  clear Rga Zga
  have Rga := Lib.hid xga
  have Zga := Lib.hid yga
  clear xga yga
  have xgb := fun k hk => (hb10.cell (p := ⟨gb, k, none⟩) Zgb.out).trans (Rgb.out k hk)
  have ygb := Nat.lt_of_lt_of_le Zgb.out hb10.size
  clear Rgb Zgb
  have Rgb := Lib.hid xgb
  have Zgb := Lib.hid ygb
  clear xgb ygb
  have hw10 := HW.out.trans (hb10.mono HW.out.size)
  clear HW
  have HW := Lib.hid hw10
  clear hb10 hw10
  clear y0 y1 y2 y3 y4 y5 y6 y7
  go_upto_region 9 with (fail)
  have xS := alloc_heap_old (.cells #[.int .i64 q0, .int .i64 q1, .int .i64 q2, .int .i64 q3, .int .i64 q4, .int .i64 q5, .int .i64 q6, .int .i64 q7] 23) FS.out
  have xP := alloc_heap_old (.cells #[.int .i64 q0, .int .i64 q1, .int .i64 q2, .int .i64 q3, .int .i64 q4, .int .i64 q5, .int .i64 q6, .int .i64 q7] 23) FP.out
  have xQ := alloc_heap_old (.cells #[.int .i64 q0, .int .i64 q1, .int .i64 q2, .int .i64 q3, .int .i64 q4, .int .i64 q5, .int .i64 q6, .int .i64 q7] 23) FQ.out
  have xT := alloc_heap_old (.cells #[.int .i64 q0, .int .i64 q1, .int .i64 q2, .int .i64 q3, .int .i64 q4, .int .i64 q5, .int .i64 q6, .int .i64 q7] 23) FT.out
  have xN := alloc_heap_at w10 (.cells #[.int .i64 q0, .int .i64 q1, .int .i64 q2, .int .i64 q3, .int .i64 q4, .int .i64 q5, .int .i64 q6, .int .i64 q7] 23) _ rfl
  have hW := HW.out.alloc HW.out.size (.cells #[.int .i64 q0, .int .i64 q1, .int .i64 q2, .int .i64 q3, .int .i64 q4, .int .i64 q5, .int .i64 q6, .int .i64 q7] 23)
  have xga := fun k hk => new_past (o := (.cells #[.int .i64 q0, .int .i64 q1, .int .i64 q2, .int .i64 q3, .int .i64 q4, .int .i64 q5, .int .i64 q6, .int .i64 q7] 23)) Zga.out (Rga.out k hk)
  have yga : ga < (w10.alloc (.cells #[.int .i64 q0, .int .i64 q1, .int .i64 q2, .int .i64 q3, .int .i64 q4, .int .i64 q5, .int .i64 q6, .int .i64 q7] 23)).heap.size := by have := Zga.out; simp; omega
  have xgb := fun k hk => new_past (o := (.cells #[.int .i64 q0, .int .i64 q1, .int .i64 q2, .int .i64 q3, .int .i64 q4, .int .i64 q5, .int .i64 q6, .int .i64 q7] 23)) Zgb.out (Rgb.out k hk)
  have ygb : gb < (w10.alloc (.cells #[.int .i64 q0, .int .i64 q1, .int .i64 q2, .int .i64 q3, .int .i64 q4, .int .i64 q5, .int .i64 q6, .int .i64 q7] 23)).heap.size := by have := Zgb.out; simp; omega
  generalize w10.alloc (.cells #[.int .i64 q0, .int .i64 q1, .int .i64 q2, .int .i64 q3, .int .i64 q4, .int .i64 q5, .int .i64 q6, .int .i64 q7] 23) = w11 at xS xP xQ xT xN hW xga yga xgb ygb ⊢
  clear HW FS FP FQ FT Rga Zga Rgb Zgb
  have FS := Lib.hid xS
  have FP := Lib.hid xP
  have FQ := Lib.hid xQ
  have FT := Lib.hid xT
  have Rga := Lib.hid xga
  have Zga := Lib.hid yga
  have Rgb := Lib.hid xgb
  have Zgb := Lib.hid ygb
  have FU := Lib.hid xN
  have HW := Lib.hid hW
  clear xS xP xQ xT xN hW xga yga xgb ygb
  have y0 : w11.cell? ⟨w.heap.size, 0, none⟩ = some (.int .i64 s0) := cell_of FS.out 0
  have y1 : w11.cell? ⟨w.heap.size, 1, none⟩ = some (.int .i64 s1) := cell_of FS.out 1
  have y2 : w11.cell? ⟨w.heap.size, 2, none⟩ = some (.int .i64 s2) := cell_of FS.out 2
  have y3 : w11.cell? ⟨w.heap.size, 3, none⟩ = some (.int .i64 s3) := cell_of FS.out 3
  have y4 : w11.cell? ⟨w.heap.size, 4, none⟩ = some (.int .i64 s4) := cell_of FS.out 4
  have y5 : w11.cell? ⟨w.heap.size, 5, none⟩ = some (.int .i64 s5) := cell_of FS.out 5
  have y6 : w11.cell? ⟨w.heap.size, 6, none⟩ = some (.int .i64 s6) := cell_of FS.out 6
  have y7 : w11.cell? ⟨w.heap.size, 7, none⟩ = some (.int .i64 s7) := cell_of FS.out 7
  go_wp2_with fail
  refine (A5.out _ _ _ _ (H.out.below (HW.out.mono H.out.size))).mono ?_
  rintro e w12 ⟨rfl, hb12⟩
  have xS := (hb12.block _ (lt_of_heap FS.out)).trans FS.out
  clear FS
  have FS := Lib.hid xS
  clear xS
  have xP := (hb12.block _ (lt_of_heap FP.out)).trans FP.out
  clear FP
  have FP := Lib.hid xP
  clear xP
  have xQ := (hb12.block _ (lt_of_heap FQ.out)).trans FQ.out
  clear FQ
  have FQ := Lib.hid xQ
  clear xQ
  have xT := (hb12.block _ (lt_of_heap FT.out)).trans FT.out
  clear FT
  have FT := Lib.hid xT
  clear xT
  have xU := (hb12.block _ (lt_of_heap FU.out)).trans FU.out
  clear FU
  have FU := Lib.hid xU
  clear xU
  have xga := fun k hk => (hb12.cell (p := ⟨ga, k, none⟩) Zga.out).trans (Rga.out k hk)
  have yga := Nat.lt_of_lt_of_le Zga.out hb12.size
  clear Rga Zga
  have Rga := Lib.hid xga
  have Zga := Lib.hid yga
  clear xga yga
  have xgb := fun k hk => (hb12.cell (p := ⟨gb, k, none⟩) Zgb.out).trans (Rgb.out k hk)
  have ygb := Nat.lt_of_lt_of_le Zgb.out hb12.size
  clear Rgb Zgb
  have Rgb := Lib.hid xgb
  have Zgb := Lib.hid ygb
  clear xgb ygb
  have hw12 := HW.out.trans (hb12.mono HW.out.size)
  clear HW
  have HW := Lib.hid hw12
  clear hb12 hw12
  clear y0 y1 y2 y3 y4 y5 y6 y7
  have y0 : w12.cell? ⟨w.heap.size, 0, none⟩ = some (.int .i64 s0) := cell_of FS.out 0
  have y1 : w12.cell? ⟨w.heap.size, 1, none⟩ = some (.int .i64 s1) := cell_of FS.out 1
  have y2 : w12.cell? ⟨w.heap.size, 2, none⟩ = some (.int .i64 s2) := cell_of FS.out 2
  have y3 : w12.cell? ⟨w.heap.size, 3, none⟩ = some (.int .i64 s3) := cell_of FS.out 3
  have y4 : w12.cell? ⟨w.heap.size, 4, none⟩ = some (.int .i64 s4) := cell_of FS.out 4
  have y5 : w12.cell? ⟨w.heap.size, 5, none⟩ = some (.int .i64 s5) := cell_of FS.out 5
  have y6 : w12.cell? ⟨w.heap.size, 6, none⟩ = some (.int .i64 s6) := cell_of FS.out 6
  have y7 : w12.cell? ⟨w.heap.size, 7, none⟩ = some (.int .i64 s7) := cell_of FS.out 7
  go_wp2_with fail
  refine (A6.out _).mono ?_
  rintro e w13 ⟨rfl, hb13⟩
  have xS := (hb13.block _ (lt_of_heap FS.out)).trans FS.out
  clear FS
  have FS := Lib.hid xS
  clear xS
  have xP := (hb13.block _ (lt_of_heap FP.out)).trans FP.out
  clear FP
  have FP := Lib.hid xP
  clear xP
  have xQ := (hb13.block _ (lt_of_heap FQ.out)).trans FQ.out
  clear FQ
  have FQ := Lib.hid xQ
  clear xQ
  have xT := (hb13.block _ (lt_of_heap FT.out)).trans FT.out
  clear FT
  have FT := Lib.hid xT
  clear xT
  have xU := (hb13.block _ (lt_of_heap FU.out)).trans FU.out
  clear FU
  have FU := Lib.hid xU
  clear xU
  have xga := fun k hk => (hb13.cell (p := ⟨ga, k, none⟩) Zga.out).trans (Rga.out k hk)
  have yga := Nat.lt_of_lt_of_le Zga.out hb13.size
  clear Rga Zga
  have Rga := Lib.hid xga
  have Zga := Lib.hid yga
  clear xga yga
  have xgb := fun k hk => (hb13.cell (p := ⟨gb, k, none⟩) Zgb.out).trans (Rgb.out k hk)
  have ygb := Nat.lt_of_lt_of_le Zgb.out hb13.size
  clear Rgb Zgb
  have Rgb := Lib.hid xgb
  have Zgb := Lib.hid ygb
  clear xgb ygb
  have hw13 := HW.out.trans (hb13.mono HW.out.size)
  clear HW
  have HW := Lib.hid hw13
  clear hb13 hw13
  clear y0 y1 y2 y3 y4 y5 y6 y7
  go_wp2_with fail
  refine (first_any _).mono ?_
  rintro e w14 ⟨rfl, hb14⟩
  have xS := (hb14.block _ (lt_of_heap FS.out)).trans FS.out
  clear FS
  have FS := Lib.hid xS
  clear xS
  have xP := (hb14.block _ (lt_of_heap FP.out)).trans FP.out
  clear FP
  have FP := Lib.hid xP
  clear xP
  have xQ := (hb14.block _ (lt_of_heap FQ.out)).trans FQ.out
  clear FQ
  have FQ := Lib.hid xQ
  clear xQ
  have xT := (hb14.block _ (lt_of_heap FT.out)).trans FT.out
  clear FT
  have FT := Lib.hid xT
  clear xT
  have xU := (hb14.block _ (lt_of_heap FU.out)).trans FU.out
  clear FU
  have FU := Lib.hid xU
  clear xU
  have xga := fun k hk => (hb14.cell (p := ⟨ga, k, none⟩) Zga.out).trans (Rga.out k hk)
  have yga := Nat.lt_of_lt_of_le Zga.out hb14.size
  clear Rga Zga
  have Rga := Lib.hid xga
  have Zga := Lib.hid yga
  clear xga yga
  have xgb := fun k hk => (hb14.cell (p := ⟨gb, k, none⟩) Zgb.out).trans (Rgb.out k hk)
  have ygb := Nat.lt_of_lt_of_le Zgb.out hb14.size
  clear Rgb Zgb
  have Rgb := Lib.hid xgb
  have Zgb := Lib.hid ygb
  clear xgb ygb
  have hw14 := HW.out.trans (hb14.mono HW.out.size)
  clear HW
  have HW := Lib.hid hw14
  clear hb14 hw14
  go_wp2_with fail
  refine (ref_first _).mono ?_
  rintro e w15 ⟨rfl, hb15⟩
  have xS := (hb15.block _ (lt_of_heap FS.out)).trans FS.out
  clear FS
  have FS := Lib.hid xS
  clear xS
  have xP := (hb15.block _ (lt_of_heap FP.out)).trans FP.out
  clear FP
  have FP := Lib.hid xP
  clear xP
  have xQ := (hb15.block _ (lt_of_heap FQ.out)).trans FQ.out
  clear FQ
  have FQ := Lib.hid xQ
  clear xQ
  have xT := (hb15.block _ (lt_of_heap FT.out)).trans FT.out
  clear FT
  have FT := Lib.hid xT
  clear xT
  have xU := (hb15.block _ (lt_of_heap FU.out)).trans FU.out
  clear FU
  have FU := Lib.hid xU
  clear xU
  have xga := fun k hk => (hb15.cell (p := ⟨ga, k, none⟩) Zga.out).trans (Rga.out k hk)
  have yga := Nat.lt_of_lt_of_le Zga.out hb15.size
  clear Rga Zga
  have Rga := Lib.hid xga
  have Zga := Lib.hid yga
  clear xga yga
  have xgb := fun k hk => (hb15.cell (p := ⟨gb, k, none⟩) Zgb.out).trans (Rgb.out k hk)
  have ygb := Nat.lt_of_lt_of_le Zgb.out hb15.size
  clear Rgb Zgb
  have Rgb := Lib.hid xgb
  have Zgb := Lib.hid ygb
  clear xgb ygb
  have hw15 := HW.out.trans (hb15.mono HW.out.size)
  clear HW
  have HW := Lib.hid hw15
  clear hb15 hw15
  have he1 : eq8 [1779033703, 3144134277, 1013904242, 2773480762, 1359893119, 2600822924, 528734635, 1541459225] [1779033703, 3144134277, 1013904242, 2773480762, 1359893119, 2600822924, 528734635, 1541459225] = true := eq8_refl _
  go_wp2_with fail
  refine (ref_ints ga gb ca cb 64 (fun j => (Sha.word (byteAt bl) j : Nat)) _ Rga.out Rgb.out (by decide)).mono ?_
  rintro e w16 ⟨rfl, nq, rfl⟩
  have hwq := (drewN_below HW.out HW.out.size nq)
  have HWQ := Lib.hid hwq
  clear hwq
  have y0 : w15.cell? ⟨w4.heap.size, 0, none⟩ = some (.int .i64 r0) := cell_of FP.out 0
  have y1 : w15.cell? ⟨w4.heap.size, 1, none⟩ = some (.int .i64 r1) := cell_of FP.out 1
  have y2 : w15.cell? ⟨w4.heap.size, 2, none⟩ = some (.int .i64 r2) := cell_of FP.out 2
  have y3 : w15.cell? ⟨w4.heap.size, 3, none⟩ = some (.int .i64 r3) := cell_of FP.out 3
  have y4 : w15.cell? ⟨w4.heap.size, 4, none⟩ = some (.int .i64 r4) := cell_of FP.out 4
  have y5 : w15.cell? ⟨w4.heap.size, 5, none⟩ = some (.int .i64 r5) := cell_of FP.out 5
  have y6 : w15.cell? ⟨w4.heap.size, 6, none⟩ = some (.int .i64 r6) := cell_of FP.out 6
  have y7 : w15.cell? ⟨w4.heap.size, 7, none⟩ = some (.int .i64 r7) := cell_of FP.out 7
  have z0 : w15.cell? ⟨w6.heap.size, 0, none⟩ = some (.int .i64 r0) := cell_of FQ.out 0
  have z1 : w15.cell? ⟨w6.heap.size, 1, none⟩ = some (.int .i64 r1) := cell_of FQ.out 1
  have z2 : w15.cell? ⟨w6.heap.size, 2, none⟩ = some (.int .i64 r2) := cell_of FQ.out 2
  have z3 : w15.cell? ⟨w6.heap.size, 3, none⟩ = some (.int .i64 r3) := cell_of FQ.out 3
  have z4 : w15.cell? ⟨w6.heap.size, 4, none⟩ = some (.int .i64 r4) := cell_of FQ.out 4
  have z5 : w15.cell? ⟨w6.heap.size, 5, none⟩ = some (.int .i64 r5) := cell_of FQ.out 5
  have z6 : w15.cell? ⟨w6.heap.size, 6, none⟩ = some (.int .i64 r6) := cell_of FQ.out 6
  have z7 : w15.cell? ⟨w6.heap.size, 7, none⟩ = some (.int .i64 r7) := cell_of FQ.out 7
  have u0 : w15.cell? ⟨w8.heap.size, 0, none⟩ = some (.int .i64 q0) := cell_of FT.out 0
  have u1 : w15.cell? ⟨w8.heap.size, 1, none⟩ = some (.int .i64 q1) := cell_of FT.out 1
  have u2 : w15.cell? ⟨w8.heap.size, 2, none⟩ = some (.int .i64 q2) := cell_of FT.out 2
  have u3 : w15.cell? ⟨w8.heap.size, 3, none⟩ = some (.int .i64 q3) := cell_of FT.out 3
  have u4 : w15.cell? ⟨w8.heap.size, 4, none⟩ = some (.int .i64 q4) := cell_of FT.out 4
  have u5 : w15.cell? ⟨w8.heap.size, 5, none⟩ = some (.int .i64 q5) := cell_of FT.out 5
  have u6 : w15.cell? ⟨w8.heap.size, 6, none⟩ = some (.int .i64 q6) := cell_of FT.out 6
  have u7 : w15.cell? ⟨w8.heap.size, 7, none⟩ = some (.int .i64 q7) := cell_of FT.out 7
  have v0 : w15.cell? ⟨w10.heap.size, 0, none⟩ = some (.int .i64 q0) := cell_of FU.out 0
  have v1 : w15.cell? ⟨w10.heap.size, 1, none⟩ = some (.int .i64 q1) := cell_of FU.out 1
  have v2 : w15.cell? ⟨w10.heap.size, 2, none⟩ = some (.int .i64 q2) := cell_of FU.out 2
  have v3 : w15.cell? ⟨w10.heap.size, 3, none⟩ = some (.int .i64 q3) := cell_of FU.out 3
  have v4 : w15.cell? ⟨w10.heap.size, 4, none⟩ = some (.int .i64 q4) := cell_of FU.out 4
  have v5 : w15.cell? ⟨w10.heap.size, 5, none⟩ = some (.int .i64 q5) := cell_of FU.out 5
  have v6 : w15.cell? ⟨w10.heap.size, 6, none⟩ = some (.int .i64 q6) := cell_of FU.out 6
  have v7 : w15.cell? ⟨w10.heap.size, 7, none⟩ = some (.int .i64 q7) := cell_of FU.out 7
  have he2 : eq8 [r0, r1, r2, r3, r4, r5, r6, r7] [r0, r1, r2, r3, r4, r5, r6, r7] = true := eq8_refl _
  have he3 : eq8 [q0, q1, q2, q3, q4, q5, q6, q7] [q0, q1, q2, q3, q4, q5, q6, q7] = true := eq8_refl _
  go_wp2_with fail
  exact bodyPost_ret (v := .bool true) (by simp [results, Tryd.results3, go_sem]) rfl ⟨rfl, HWQ.out⟩
/-- EVERY STATE, TEXT, TWO NUMBERS. -/
theorem tells_law (s0 s1 s2 s3 s4 s5 s6 s7 : Int) (b : ByteArray) (hm : b.size ≤ maxLen) (i x : Int) {B : Nat} {aw ab : Addr} {w : World} (h : Glob B aw ab w) (hk : RefK w) :
    Calls Tryd.prog 3 #[.agg #[.int .i64 s0, .int .i64 s1, .int .i64 s2, .int .i64 s3, .int .i64 s4, .int .i64 s5, .int .i64 s6, .int .i64 s7], .string b, .int .i64 i, .int .i64 x] w fun e w' => e = .returned (.bool true) ∧ Below w.heap.size w w' := by
  by_cases h64 : (front b 70).size = 64
  · exact tells_ok s0 s1 s2 s3 s4 s5 s6 s7 i x b hm h64 h hk
  · exact tells_bad s0 s1 s2 s3 s4 s5 s6 s7 i x b hm h64 h hk
end Go.Proofs.YtfafidholldjlaaDoor
