/- The iterator over a block's schedule. -/
import Derived.Test.YtfafidholldjlaaDoorZA
import Derived.RangeFuncNested
import Derived.RangeFuncCalls
import Derived.RangeFuncLeaves
import Derived.OwnWalkIn
import Derived.TacticsInMore
import Derived.Deep.Cut
import Derived.RangeFuncBox
import Derived.Maps.AppendAt
import Derived.Deep.RegionWith
import Derived.StillTailTactics
set_option linter.unusedVariables false
set_option linter.unusedSimpArgs false
namespace Go.Proofs.YtfafidholldjlaaDoor
open Go.RowKit
attribute [local go_sem] setCell_twice
attribute [local go_sem ↓] Go.wp_at_zero Go.wp_at_succ
/-- A text's byte at a place. -/
def byteAt (s : ByteArray) (i : Nat) : Nat := (s.data.toList.getD i 0).toNat
theorem byteAt_lt (s : ByteArray) (i : Nat) : byteAt s i < 256 := UInt8.toNat_lt _
def wRow (s : ByteArray) (t : Nat) : Array Value := ((List.range 64).map fun k => Value.int .u32 ((if k < t then Sha.word (byteAt s) k else 0 : Nat) : Int)).toArray
theorem wRow_get (s : ByteArray) (t k : Nat) (h : k < 64) : (wRow s t)[k]? = some (.int .u32 ((if k < t then Sha.word (byteAt s) k else 0 : Nat) : Int)) := by
  simp [wRow, h]
theorem wRow_set (s : ByteArray) (t : Nat) (h : t < 64) : (wRow s t).setIfInBounds t (.int .u32 (Sha.word (byteAt s) t : Nat)) = wRow s (t + 1) := by
  apply Array.ext
  · simp [wRow]
  · intro i h1 h2
    have hi : i < 64 := by simpa [wRow] using h2
    simp only [wRow, List.setIfInBounds_toArray, List.getElem_toArray, List.getElem_set, List.getElem_map, List.getElem_range]
    by_cases e : t = i
    · subst e; simp
    · rw [if_neg e]
      congr 2
      by_cases hl : i < t
      · rw [if_pos hl, if_pos (by omega)]
      · rw [if_neg hl, if_neg (by omega)]
theorem or_join (x b : Nat) (hx : x < 16777216) (hb : b < 256) : bits .or .u32 ((x : Int) * 256 % 4294967296) ((b : Int) % 4294967296) = ((x * 256 + b : Nat) : Int) := by
  have e1 : ((x : Int) * 256 % 4294967296) = ((x * 256 : Nat) : Int) := by omega
  have e2 : ((b : Int) % 4294967296) = (b : Int) := by omega
  rw [e1, e2, u32_or_nat _ _ (by omega) (by omega), nat_join 8 (x * 256) b (by omega) (by simpa using hb)]
theorem be_val (b0 b1 b2 b3 : Nat) (h0 : b0 < 256) (h1 : b1 < 256) (h2 : b2 < 256) (h3 : b3 < 256) :
    bits BinOp.or IntKind.u32 (bits BinOp.or IntKind.u32 (bits BinOp.or IntKind.u32 (bits BinOp.or IntKind.u32 0 ((b0 : Int) % 4294967296) * 256 % 4294967296) ((b1 : Int) % 4294967296) * 256 % 4294967296) ((b2 : Int) % 4294967296) * 256 % 4294967296) ((b3 : Int) % 4294967296) =
      ((((b0 * 256 + b1) * 256 + b2) * 256 + b3 : Nat) : Int) := by
  have e0 : bits BinOp.or IntKind.u32 0 ((b0 : Int) % 4294967296) = (b0 : Int) := by
    have := or_join 0 b0 (by omega) h0
    simpa using this
  rw [e0, or_join b0 b1 (by omega) h1, or_join (b0 * 256 + b1) b2 (by omega) h2, or_join ((b0 * 256 + b1) * 256 + b2) b3 (by omega) h3]
theorem far_setB {b : Nat} {a c : World} (h : Far (· = b) a c) (j : Nat) (v : Value) : Far (· = b) a (c.setCell ⟨b, j, none⟩ v) := h.setCell (fun _ => rfl) v
theorem sig_val (x y k : Nat) (hx : x < 4294967296) (hy : y < 4294967296) : bits .xor .u32 (x : Int) ((y : Int) / k) = ((x ^^^ (y / k) : Nat) : Int) := by
  have e : ((y : Int) / (k : Int)) = ((y / k : Nat) : Int) := by simp
  rw [e, u32_xor_nat _ _ hx (Nat.lt_of_le_of_lt (Nat.div_le_self _ _) hy)]
theorem sched_val (a b c d : Nat) (hb : b < 4294967296) (hd : d < 4294967296) :
    IntKind.u32.wrap (IntKind.u32.wrap (IntKind.u32.wrap ((a : Int) + bits BinOp.xor IntKind.u32 (Sha.turned b [7, 18] : Nat) ((b : Int) / 8)) + (c : Int)) + bits BinOp.xor IntKind.u32 (Sha.turned d [17, 19] : Nat) ((d : Int) / 1024)) =
      (((a + Sha.sig0 b + c + Sha.sig1 d) % 4294967296 : Nat) : Int) := by
  have e1 := sig_val (Sha.turned b [7, 18]) b 8 (Sha.turned_lt hb (by decide)) hb
  have e2 := sig_val (Sha.turned d [17, 19]) d 1024 (Sha.turned_lt hd (by decide)) hd
  rw [show ((8 : Int)) = ((8 : Nat) : Int) from rfl, show ((1024 : Int)) = ((1024 : Nat) : Int) from rfl, e1, e2]
  simp only [IntKind.wrap_u32']
  unfold Sha.sig0 Sha.sig1
  omega
set_option maxRecDepth 100000 in
set_option maxHeartbeats 4000000 in
theorem words_calls (s : ByteArray) (hs : s.size = 64) (l bs bw : Nat) (T T' : TypeId) (J : Nat → World → Prop)
    (hJ : ∀ t W W', J t W → Far (· = bw) W W' → J t W')
    (hY : ∀ t, t < 64 → ∀ W, J t W → YieldAt Fence.wide 3 Tryd.prog l #[.int .u32 (Sha.word (byteAt s) t : Nat)] W fun e W' => e = .returned (.bool true) ∧ J (t + 1) W' ∧ Far (fun k => k ≠ bs ∧ k ≠ bw) W W')
    (W : World) (hbs : W.heap[bs]? = some (.cells #[.string s] T (0, 0))) (hbw : W.heap[bw]? = some (.cells (wRow s 0) T' (0, 0))) (hne : bs ≠ bw) (h0 : J 0 W) :
    Calls Tryd.prog 82 #[.func (.yield l) #[] #[], .pointer (some ⟨bs, 0, none⟩), .pointer (some ⟨bw, 0, none⟩)] W fun e W' => e = .returned (.tuple #[]) ∧ J 64 W' := by
  have HJ := Lib.hid hJ
  have HY := Lib.hid hY
  have Hs := Lib.hid hs
  have Hbs := Lib.hid hbs
  have Hbw := Lib.hid hbw
  clear hJ hY hs hbs hbw
  go_enter Tryd.func82, Tryd.ntmps82
  go_wp2_with fail
  go_step3
  go_wp2_with fail
  go_step3
  go_wp2_with fail
  go_loopw [9] (fun i wr => ∃ t : Nat, t ≤ 64 ∧ i = .int .i64 t ∧ wr.heap[bs]? = some (.cells #[.string s] T (0, 0)) ∧ wr.heap[bw]? = some (.cells (wRow s t) T' (0, 0)) ∧ J t wr) (fun i _ => 64 - (intOf i).toNat)
  case atStart => exact ⟨0, Nat.zero_le _, rfl, Hbs.out, Hbw.out, h0⟩
  case round =>
    obtain ⟨t, ht, rfl, rbs, rbw, rJ⟩ := hrel
    by_cases hlt : t < 64
    · by_cases h16 : t < 16
      · have c1 : wr.cell? ⟨bs, 0, none⟩ = some (.string s) := cell_of rbs 0
        have hbwl : bw < wr.heap.size := lt_of_heap rbw
        obtain ⟨P, hP⟩ : ∃ P, s.extract (4 * t) (4 * t + 4) = P := ⟨_, rfl⟩
        have hPs : P.size = 4 := by rw [← hP]; simp [ByteArray.size_extract, Hs.out]; omega
        have hPb : ∀ j, j < 4 → ∀ h : j < P.data.size, P.data[j].toNat = byteAt s (4 * t + j) := by
          intro j hj h
          subst hP
          have h' : 4 * t + j < s.data.size := by have := Hs.out; have e : s.data.size = 64 := this; omega
          have e1 : byteAt s (4 * t + j) = (s.data[4 * t + j]'(h')).toNat := by
            unfold byteAt
            rw [List.getD_eq_getElem?_getD, List.getElem?_eq_getElem (by simpa using h')]
            rfl
          rw [e1]
          congr 1
          simp [ByteArray.data_extract]
        have hsl : (Instr.slice 9 (.string s) (some (.int .i64 (4 * (t : Int)))) (some (.int .i64 (4 * (t : Int) + 4))) none).run Tryd.prog wr = .ok (.string P) wr := by
          rw [run_slice_string (P := Tryd.prog) wr 9 s .i64 .i64 (4 * (t : Int)) (4 * (t : Int) + 4) Tryd.underlying9 (by omega) (by omega) (by have := Hs.out; omega), ← hP]
          rfl
        obtain ⟨C, hC⟩ : ∃ C, grownCap wr P.size 0 5 = C := ⟨_, rfl⟩
        obtain ⟨Wc, hWc⟩ : ∃ Wc, wr.drew.alloc (.cells (bytesRow P C) 5 ((bytesRow P C).size, (bytesRow P C).size + 1)) = Wc := ⟨_, rfl⟩
        have hcv : (convert 9 40 (.string P)).run Tryd.prog wr = .ok (.slice (some ⟨wr.heap.size, 0, none⟩) 4 C) Wc := by
          rw [← hWc, ← hC, ← hPs]
          exact run_bytes_of_string wr 9 40 5 P Tryd.underlying9 Tryd.underlying40 Tryd.underlying5
        have hbc : ∀ j, j < 4 → Wc.cell? ⟨wr.heap.size, j, none⟩ = some (.int .u8 (byteAt s (4 * t + j) : Nat)) := by
          intro j hj
          have hj' : j < P.data.size := by have : P.data.size = 4 := hPs; omega
          rw [← hWc, ← hPb j hj hj', ← bytesRow_at P C j hj']
          exact World.cell?_alloc_mark wr.drew _ _ _ j
        have b0 := hbc 0 (by omega)
        have b1 := hbc 1 (by omega)
        have b2 := hbc 2 (by omega)
        have b3 := hbc 3 (by omega)
        have hfc : Far (· = bw) wr Wc := by rw [← hWc]; exact ((Far.refl _ _).drew).alloc _
        have hcw : Wc.heap[bw]? = some (.cells (wRow s t) T' (0, 0)) := by rw [← hWc]; exact alloc_heap_old _ rbw
        have hcs : Wc.heap[bs]? = some (.cells #[.string s] T (0, 0)) := by rw [← hWc]; exact alloc_heap_old _ rbs
        have d0 : Wc.cell? ⟨bw, t, none⟩ = some (.int .u32 0) := by rw [cell_of hcw t, wRow_get s t t hlt]; simp
        have f0 : Wc.frozen? ⟨bw, t, none⟩ = false := frozen_of hcw t
        have hne2 : wr.heap.size ≠ bw := by omega
        have ti0 : (0 : Int) ≤ (t : Int) := by omega
        have ti1 : (t : Int) < 64 := by omega
        have Rcs := Lib.hid hcs
        have Rcw := Lib.hid hcw
        have RP := Lib.hid hPs
        clear rbs rbw hbc hWc hcs hcw hPb hP hC hPs
        go_wp2_with fail
        refine wp_loop_rounds 5 ?_
        iterate 4 (rw [rounds_succ]; go_wp2_with fail)
        rw [rounds_succ]
        go_upto_region 11 with (fail)
        have hV : bits BinOp.or IntKind.u32 (bits BinOp.or IntKind.u32 (bits BinOp.or IntKind.u32 (bits BinOp.or IntKind.u32 0 ((byteAt s (4 * t) : Int) % 4294967296) * 256 % 4294967296) ((byteAt s (4 * t + 1) : Int) % 4294967296) * 256 % 4294967296) ((byteAt s (4 * t + 2) : Int) % 4294967296) * 256 % 4294967296) ((byteAt s (4 * t + 3) : Int) % 4294967296) = (Sha.word (byteAt s) t : Nat) := by
          rw [be_val _ _ _ _ (byteAt_lt s _) (byteAt_lt s _) (byteAt_lt s _) (byteAt_lt s _)]
          simp [Sha.word, h16, Sha.be]
        rw [hV]
        clear hV
        have hX : (Wc.setCell ⟨bw, t, none⟩ (.int .u32 (Sha.word (byteAt s) t : Nat))).heap[bw]? = some (.cells (wRow s (t + 1)) T' (0, 0)) := by
          have := setCell_heap Rcw.out t (.int .u32 (Sha.word (byteAt s) t : Nat))
          rwa [wRow_set s t hlt] at this
        have hXs : (Wc.setCell ⟨bw, t, none⟩ (.int .u32 (Sha.word (byteAt s) t : Nat))).heap[bs]? = some (.cells #[.string s] T (0, 0)) := (Below.heap_setCell _ _ _ _ hne).trans Rcs.out
        have hXJ : J t (Wc.setCell ⟨bw, t, none⟩ (.int .u32 (Sha.word (byteAt s) t : Nat))) := HJ.out t wr _ rJ (hfc.setCell (fun _ => rfl) _)
        generalize Wc.setCell ⟨bw, t, none⟩ (.int .u32 (Sha.word (byteAt s) t : Nat)) = X at hX hXs hXJ
        clear hcv hsl b0 b1 b2 b3 c1 d0 f0 hfc rJ
        obtain ⟨fn, tmps, assign, body, hy, hR⟩ := HY.out t hlt X hXJ
        have e0 : X.cell? ⟨bw, t, none⟩ = some (.int .u32 (Sha.word (byteAt s) t : Nat)) := by rw [cell_of hX t, wRow_get s _ t hlt]; simp
        have RX := Lib.hid hX
        have RXs := Lib.hid hXs
        have RR := Lib.hid hR
        clear hX hXs hR
        refine (wpIn_wide (n := 4)).1 ?_
        gi_wp2
        refine (RR.out).mono ?_
        rintro e W3 ⟨rfl, hJ3, hF3⟩
        gi_wp2
        go_wp2_with fail
        go_roundw
        case rel => exact ⟨t + 1, by omega, by go_num, hF3.heap RXs.out (by simp), hF3.heap RX.out (by simp), hJ3⟩
        case measure => simp [intOf]; omega
      · have hbwl : bw < wr.heap.size := lt_of_heap rbw
        have hb16 : wr.cell? ⟨bw, t - 16, none⟩ = some (.int .u32 (Sha.word (byteAt s) (t - 16) : Nat)) := by rw [cell_of rbw, wRow_get s t _ (by omega), if_pos (by omega)]
        have hb15 : wr.cell? ⟨bw, t - 15, none⟩ = some (.int .u32 (Sha.word (byteAt s) (t - 15) : Nat)) := by rw [cell_of rbw, wRow_get s t _ (by omega), if_pos (by omega)]
        have hb7 : wr.cell? ⟨bw, t - 7, none⟩ = some (.int .u32 (Sha.word (byteAt s) (t - 7) : Nat)) := by rw [cell_of rbw, wRow_get s t _ (by omega), if_pos (by omega)]
        have hb2 : wr.cell? ⟨bw, t - 2, none⟩ = some (.int .u32 (Sha.word (byteAt s) (t - 2) : Nat)) := by rw [cell_of rbw, wRow_get s t _ (by omega), if_pos (by omega)]
        have hbt : wr.cell? ⟨bw, t, none⟩ = some (.int .u32 0) := by rw [cell_of rbw, wRow_get s t t hlt]; simp
        have hft : wr.frozen? ⟨bw, t, none⟩ = false := frozen_of rbw t
        have i16a : (0 : Int) ≤ (t : Int) - 16 := by omega
        have i16b : (t : Int) - 16 < 64 := by omega
        have i15a : (0 : Int) ≤ (t : Int) - 15 := by omega
        have i15b : (t : Int) - 15 < 64 := by omega
        have i7a : (0 : Int) ≤ (t : Int) - 7 := by omega
        have i7b : (t : Int) - 7 < 64 := by omega
        have i7c : (7 : Int) ≤ (t : Int) := by omega
        have i16c : (16 : Int) ≤ (t : Int) := by omega
        have i2a : (0 : Int) ≤ (t : Int) - 2 := by omega
        have i2b : (t : Int) - 2 < 64 := by omega
        have ti0 : (0 : Int) ≤ (t : Int) := by omega
        have ti1 : (t : Int) < 64 := by omega
        have l15 := Sha.word_lt (byteAt s) (byteAt_lt s) (t - 15)
        have l2 := Sha.word_lt (byteAt s) (byteAt_lt s) (t - 2)
        have Rbs := Lib.hid rbs
        have Rbw := Lib.hid rbw
        clear rbs rbw
        go_wp2_with fail
        go_quiet (fail)
        go_wp2_with fail
        have hV : IntKind.u32.wrap (IntKind.u32.wrap (IntKind.u32.wrap ((Sha.word (byteAt s) (t - 16) : Int) + bits BinOp.xor IntKind.u32 (Sha.turned (Sha.word (byteAt s) (t - 15)) [7, 18] : Nat) ((Sha.word (byteAt s) (t - 15) : Int) / 8)) + (Sha.word (byteAt s) (t - 7) : Int)) + bits BinOp.xor IntKind.u32 (Sha.turned (Sha.word (byteAt s) (t - 2)) [17, 19] : Nat) ((Sha.word (byteAt s) (t - 2) : Int) / 1024)) = (Sha.word (byteAt s) t : Nat) := by
          rw [sched_val _ _ _ _ (Sha.word_lt _ (byteAt_lt s) _) (Sha.word_lt _ (byteAt_lt s) _), ← Sha.word_16 (byteAt s) t (by omega)]
        have HV := Lib.hid hV
        clear hV
        have hbt2 : ∀ n o1 o2, (((wr.drewN n).alloc o1).alloc o2).cell? ⟨bw, t, none⟩ = some (.int .u32 0) := fun n o1 o2 => new_past (by simp; omega) (new_past hbwl hbt)
        have hft2 : ∀ n o1 o2, (((wr.drewN n).alloc o1).alloc o2).frozen? ⟨bw, t, none⟩ = false := fun n o1 o2 => frozen_past (by simp; omega) (frozen_past hbwl hft)
        have w16 : IntKind.i64.wrap ((t : Int) - 16) = (t : Int) - 16 := IntWalk.i64_in _ (by omega)
        have w7 : IntKind.i64.wrap ((t : Int) - 7) = (t : Int) - 7 := IntWalk.i64_in _ (by omega)
        have n16 : ((t : Int) - 16).toNat = t - 16 := by omega
        have n7 : ((t : Int) - 7).toNat = t - 7 := by omega
        go_region_held3 (fun w' => w'.cell? ⟨bw, t - 16, none⟩ = some (.int .u32 (Sha.word (byteAt s) (t - 16) : Nat)) ∧ w'.cell? ⟨bw, t - 7, none⟩ = some (.int .u32 (Sha.word (byteAt s) (t - 7) : Nat))) (first | go_keep | exact ⟨new_past (by simp [World.setCell]; omega) (cell_other (by omega) (new_past hbwl hb16)), new_past (by simp [World.setCell]; omega) (cell_other (by omega) (new_past hbwl hb7))⟩) (first | (go_at_call 83; (with_reducible refine (turned_s0 _ _ _ _ l15 ?_ ?_).mono ?_); (first | (go_simp; done) | exact new_at (by simp) rfl | exact new_past (by simp) (new_at (by simp) rfl)); (first | (go_simp; done) | exact new_at (by simp) rfl | exact new_past (by simp) (new_at (by simp) rfl)); rintro e w1 ⟨rfl, rfl⟩) | (go_at_call 83; (with_reducible refine (turned_s1 _ _ _ _ l2 ?_ ?_).mono ?_); (first | (go_simp; done) | exact new_at (by simp) rfl | exact new_past (by simp) (new_at (by simp) rfl)); (first | (go_simp; done) | exact new_at (by simp) rfl | exact new_past (by simp) (new_at (by simp) rfl)); rintro e w1 ⟨rfl, rfl⟩))
        all_goals clear hbt2 hft2 w16 w7 n16 n7 i16a i16b i15a i15b i7a i7b i7c i16c i2a i2b hb16 hb15 hb7 hb2 hbt hft l15 l2
        all_goals go_upto_region 11 with (fail)
        all_goals rw [HV.out]
        all_goals generalize hXe : World.alloc (World.setCell _ _ _) _ = X
        all_goals
          have hX : X.heap[bw]? = some (.cells (wRow s (t + 1)) T' (0, 0)) := by
            rw [← hXe, ← wRow_set s t hlt]
            exact alloc_heap_old _ (setCell_heap (alloc_heap_old _ Rbw.out) t _)
          have hXs : X.heap[bs]? = some (.cells #[.string s] T (0, 0)) := by
            rw [← hXe]
            exact alloc_heap_old _ ((Below.heap_setCell _ _ _ _ hne).trans (alloc_heap_old _ Rbs.out))
          have hXJ : J t X := HJ.out t wr _ rJ (by rw [← hXe]; exact (far_setB (((Far.refl _ _).drewN _).alloc _) _ _).alloc _)
          clear hXe
          obtain ⟨fn, tmps, assign, body, hy, hR⟩ := HY.out t hlt X hXJ
          have e0 : X.cell? ⟨bw, t, none⟩ = some (.int .u32 (Sha.word (byteAt s) t : Nat)) := by rw [cell_of hX t, wRow_get s _ t hlt]; simp
          have RX := Lib.hid hX
          have RXs := Lib.hid hXs
          have RR := Lib.hid hR
          clear hX hXs hR
          refine (wpIn_wide (n := 4)).1 ?_
          gi_wp2
          refine (RR.out).mono ?_
          rintro e W3 ⟨rfl, hJ3, hF3⟩
          gi_wp2
          go_wp2_with fail
          go_roundw
          case rel => exact ⟨t + 1, by omega, by go_num, hF3.heap RXs.out (by simp), hF3.heap RX.out (by simp), hJ3⟩
          case measure => simp [intOf]; omega
    · obtain rfl : t = 64 := by omega
      go_wp2_with fail
      rw [Exit.noGoto_normal]
      go_end0
      exact ⟨rfl, rJ⟩
end Go.Proofs.YtfafidholldjlaaDoor
/- words as an iterator; Schedule. -/
set_option linter.unusedVariables false
set_option linter.unusedSimpArgs false
namespace Go.Proofs.YtfafidholldjlaaDoor
open Go.RowKit
attribute [local go_sem] Oper.semAt_some
theorem info3 : (Tryd.prog.info? 3).map (fun i => (i.zero, i.size, i.bytes)) = some (some (.int .i64 0), 1, 8) := by kernel_rfl
theorem enters82 (args : Array Value) (w : World) : (callFunc 82 args).run Tryd.prog w = .ok (.enter 82 args) w := by kernel_rfl
theorem words_iter (s : ByteArray) (hs : s.size = 64) (bs bw : Nat) (T T' : TypeId) (w : World) (hbs : w.heap[bs]? = some (.cells #[.string s] T (0, 0))) (hbw : w.heap[bw]? = some (.cells (wRow s 0) T' (0, 0))) (hne : bs ≠ bw) :
    Iter false Tryd.prog 82 #[.pointer (some ⟨bs, 0, none⟩), .pointer (some ⟨bw, 0, none⟩)] 3 64 (fun t => #[.int .u32 (Sha.word (byteAt s) t : Nat)]) (· = bw) (fun k => k = bs ∨ k = bw) w := by
  intro l J Jx W1 hb hJ _ hX hY h0
  refine (words_calls s hs l bs bw T T' J hJ ?_ W1 ((hb.block _ (lt_of_heap hbs)).trans hbs) ((hb.block _ (lt_of_heap hbw)).trans hbw) hne h0).mono ?_
  · intro t ht W hJt
    obtain ⟨fn, tmps, assign, body, hy, hR⟩ := hY t ht W hJt
    refine ⟨fn, tmps, assign, body, hy, hR.mono ?_⟩
    rintro e W' (⟨he, hj, hf⟩ | ⟨_, hx⟩)
    · exact ⟨he, hj, hf.mono fun k _ h => ⟨fun e => h (.inl e), fun e => h (.inr e)⟩⟩
    · exact absurd hx (hX rfl W')
  · rintro e W' ⟨rfl, hj⟩
    exact ⟨⟨_, rfl⟩, .inl hj⟩
theorem wRow_zero (s : ByteArray) : wRow s 0 = Array.replicate 64 (.int .u32 0) := by
  unfold wRow
  apply Array.ext
  · simp
  · intro i h1 h2; simp
set_option maxRecDepth 100000 in
theorem words_any (s : ByteArray) (w : World) :
    Calls Tryd.prog 62 #[.string s] w fun e w' => e = .returned (.func (.func 82) #[] #[.pointer (some ⟨w.heap.size, 0, none⟩), .pointer (some ⟨w.heap.size + 1, 0, none⟩)]) ∧
      ∃ T', w'.heap[w.heap.size]? = some (.cells #[.string s] 9 (0, 0)) ∧ w'.heap[w.heap.size + 1]? = some (.cells (wRow s 0) T' (0, 0)) ∧ Below w.heap.size w w' ∧ w'.heap.size = w.heap.size + 2 := by
  go_enter Tryd.func62, Tryd.ntmps62
  go_wp2
  go_ret
  refine ⟨rfl, 108, alloc_heap_old _ (alloc_heap _ _), ?_, ((Below.refl _ _).alloc (Nat.le_refl _) _).alloc (by simp) _, by simp⟩
  rw [wRow_zero]
  exact alloc_heap_at _ _ _ (by simp)
set_option maxRecDepth 100000 in
set_option maxHeartbeats 1000000 in
theorem schedule_ok {B : Nat} {aw ab : Addr} {w : World} (h : Glob B aw ab w) (s : ByteArray) (hs : s.size = 64) :
    Calls Tryd.prog 25 #[.string s] w fun e w' => ∃ g cap, e = .returned (.tuple #[.slice (some ⟨g, 0, none⟩) 64 cap, .int .i64 0]) ∧ w.heap.size ≤ g ∧ g < w'.heap.size ∧
      (∀ k, k < 64 → w'.cell? ⟨g, k, none⟩ = some (.int .i64 (Sha.word (byteAt s) k : Nat))) ∧ Below w.heap.size w w' := by
  have Hs := Lib.hid hs
  clear hs
  refine callsIn_wide.1 (callsIn_of_wp_marks (n := 5) Tryd.func25 rfl trivial (wpIn_wide.2 ?_))
  simp only [Tryd.ntmps25, List.size_toArray, List.length_cons, List.length_nil, Nat.reduceAdd, Nat.reduceSub, Array.replicate_succ, Array.replicate_zero, List.push_toArray, List.append_toArray, List.nil_append, List.cons_append]
  go_wp2_with fail
  refine (checkBlock_ok s _ Hs.out).mono ?_
  rintro e w' ⟨rfl, rfl⟩
  go_wp2_with fail
  refine (words_any s _).mono ?_
  rintro e w1 ⟨rfl, hT⟩
  go_wp2_with fail
  obtain ⟨T', hbs, hbw, hbl, hsz⟩ := hT
  simp only [World.size_alloc] at hbs hbw hbl hsz
  have hB0 : w1.heap[w.heap.size]? = some (.cells #[.slice none 0 0] 26 (0, 0)) := (hbl.block _ (Nat.lt_succ_self _)).trans (alloc_heap _ _)
  have hw1 : Below w.heap.size w w1 := ((Below.refl _ w).alloc (Nat.le_refl _) _).trans (hbl.mono (Nat.le_succ _))
  have HB0 := Lib.hid hB0
  have hs1 : w.heap.size + 2 < w1.heap.size := by omega
  clear hsz
  obtain ⟨i0, hi, hz0, hz1, hz2⟩ := info_parts info3
  refine wpIn_wide.1 (range_law (n := 5) (gf := 82) (lb := #[.pointer (some ⟨w.heap.size + 1, 0, none⟩), .pointer (some ⟨w.heap.size + 1 + 1, 0, none⟩)]) rfl (fun args wx => enters82 args wx)
    (words_iter s Hs.out _ _ _ _ w1 hbs hbw (by omega)) (fun k e => by subst e; exact lt_of_heap hbw) (fun k e => by rcases e with rfl | rfl; exact lt_of_heap hbs; exact lt_of_heap hbw) (fun _ => rfl)
    (fun t W => (∃ v, W.heap[w.heap.size]? = some (.cells #[v] 26 (0, 0)) ∧ W.ownsRow (w1.heap.size + 2) 3 1 v t ((List.range t).map fun k => Value.int .i64 (Sha.word (byteAt s) k : Nat))) ∧ Below w.heap.size w W)
    (fun _ _ => False) ?hI (fun _ _ _ h _ => h) (fun _ _ _ h => h) ?h0 (fun t => { tmps := #[Value.string s, undef, Value.slice none 0 0, Value.int IntKind.i64 0, Value.nilIface,
          Value.pointer (some { block := w.heap.size, off := 0 }), .int .u32 (Sha.word (byteAt s) t : Nat), Value.string s, Value.nilIface,
          Value.nilIface, Value.bool false, undef, undef, Value.string s,
          Value.func (Fn.func 82) #[]
            #[Value.pointer (some { block := w.heap.size + 1, off := 0 }),
              Value.pointer (some { block := w.heap.size + 1 + 1, off := 0 })],
          .int .u32 (Sha.word (byteAt s) t : Nat), undef, undef, undef, undef, undef, undef], defers := [] }) ?assign ?body ?done (fun _ _ h _ => h.elim))
  case hI =>
    rintro t W W' ⟨⟨v, hv, hrow⟩, hb⟩ hf
    refine ⟨⟨v, hf.heap hv (by omega), ownsRow_far hrow hf (by omega)⟩, ?_⟩
    exact hb.trans (hf.to_below hb.size (by omega))
  case h0 => exact ⟨⟨_, HB0.out, World.ownsRow_nil _ _ _ _⟩, hw1⟩
  case assign =>
    intro t W K hK
    gi_wp2
    exact hK
  case body =>
    rintro t W ht hlt ⟨⟨v, hv, hrow⟩, hb⟩
    have hc : W.cell? ⟨w.heap.size, 0, none⟩ = some v := cell_of hv 0
    have hv' := Lib.hid hv
    have hl := Sha.word_lt (byteAt s) (byteAt_lt s) t
    clear hv
    gi_wp2_with (gi_at_builtin; refine wpListIn_append_own _ rfl (.tmp 16) (.tmp 19) 26 rfl (w1.heap.size + 2) 3 i0 (.int .i64 0) 1 8 Tryd.underlying26 hi hz0 hz1 hz2 rfl (by decide) v t _ rfl (hrow.alloc _) ⟨W.heap.size, 0, none⟩ 1 1 [.int .i64 (Sha.word (byteAt s) t : Nat)] rfl rfl (cell_one_new _ _ _) (by simp [Value.oneCell']) (by unfold maxLen; omega) (by omega) (by simp; omega) ?_; intro v' w2 hown' hgrow _; obtain ⟨g, cap, rfl, hg1, hg2⟩ := ownsRow_form hown'; have hrl := hrow.lt; have hf2 : Far (fun k => w1.heap.size + 2 ≤ k) W w2 := ((Far.refl _ W).alloc _).grown hgrow (fun k e _ => (hrl k e).1); have hb2 : w2.heap[w.heap.size]? = some (.cells #[v] 26 (0, 0)) := hf2.heap hv'.out (by omega); have hc1 : w2.cell? ⟨w.heap.size, 0, none⟩ = some v := cell_of hb2 0; have hz1 : w2.frozen? ⟨w.heap.size, 0, none⟩ = false := frozen_of hb2 0; have Hb2 := Lib.hid hb2; have Hown := Lib.hid hown'; clear hb2 hown' hgrow hrl)
    refine ⟨⟨⟨_, setCell_heap Hb2.out 0 _, ?_⟩, ?_⟩, ?_⟩
    · rw [List.range_succ, List.map_append]
      exact ownsRow_far Hown.out ((Far.refl (· = w.heap.size) _).setCell (fun _ => rfl) _) (by omega)
    · refine (hb.trans (hf2.to_below hb.size (by omega))).setCell (p := ⟨w.heap.size, 0, none⟩) (Nat.le_refl _) _
    · exact (hf2.mono (by omega)).setCell (fun _ h => by rcases h with (h | h) | h | h <;> (simp only at h; omega)) _
  case done =>
    rintro W ⟨⟨v, hv, hrow⟩, hb⟩ hK
    have hc : W.cell? ⟨w.heap.size, 0, none⟩ = some v := cell_of hv 0
    obtain ⟨g, cap, rfl, hg1, hg2⟩ := ownsRow_form hrow
    have Hrow := Lib.hid hrow
    have HK := Lib.hid hK
    clear hrow hv hK
    go_wp2_with fail
    refine ⟨by simp, .inl ⟨_, _, rfl, run_takeDeferred HK.out, ?_⟩⟩
    have hp := far_putObj W w1.heap.size (.deferred none)
    refine ⟨_, results_tmp2 rfl _ _ _, g, cap, rfl, by omega, by simpa using hg2, ?_, hb.trans (hp.to_below hb.size (by omega))⟩
    intro k hk
    refine (hp.cell (p := ⟨g, k, none⟩) hg2 (by show ¬ g = _; omega)).trans ?_
    exact ownsRow_cell Hrow.out k _ (by simp [hk])
end Go.Proofs.YtfafidholldjlaaDoor
/- The contracts of round, told and add, on states. -/
set_option linter.unusedVariables false
set_option linter.unusedSimpArgs false
namespace Go.Proofs.YtfafidholldjlaaDoor
open Go.RowKit
/-- A state's words, as cells. -/
def row32 (s : Sha.St) : Array Value := #[.int .u32 s.a, .int .u32 s.b, .int .u32 s.c, .int .u32 s.d, .int .u32 s.e, .int .u32 s.f, .int .u32 s.g, .int .u32 s.h]
def row64 (s : Sha.St) : Array Value := #[.int .i64 s.a, .int .i64 s.b, .int .i64 s.c, .int .i64 s.d, .int .i64 s.e, .int .i64 s.f, .int .i64 s.g, .int .i64 s.h]
theorem ch_val (e f g : Nat) (he : e < 4294967296) (hf : f < 4294967296) (hg : g < 4294967296) :
    bits BinOp.xor IntKind.u32 (bits BinOp.and IntKind.u32 e f) (bits BinOp.and IntKind.u32 (bits BinOp.xor IntKind.u32 IntKind.u32.max e) g) = ((Sha.ch e f g : Nat) : Int) := by
  have hm : IntKind.u32.max = ((4294967295 : Nat) : Int) := rfl
  have h1 : e &&& f < 2 ^ 32 := Nat.and_lt_two_pow _ hf
  have h2 : (4294967295 - e) &&& g < 2 ^ 32 := Nat.and_lt_two_pow _ hg
  rw [hm, u32_xor_nat _ _ (by decide) he, Sha.xor_ones e he, u32_and_nat _ _ he hf, u32_and_nat _ _ (by omega) hg, u32_xor_nat _ _ h1 h2]
  rfl
theorem maj_val (a b c : Nat) (ha : a < 4294967296) (hb : b < 4294967296) (hc : c < 4294967296) :
    bits BinOp.xor IntKind.u32 (bits BinOp.xor IntKind.u32 (bits BinOp.and IntKind.u32 a b) (bits BinOp.and IntKind.u32 a c)) (bits BinOp.and IntKind.u32 b c) = ((Sha.maj a b c : Nat) : Int) := by
  have h1 : a &&& b < 2 ^ 32 := Nat.and_lt_two_pow _ hb
  have h2 : a &&& c < 2 ^ 32 := Nat.and_lt_two_pow _ hc
  have h3 : b &&& c < 2 ^ 32 := Nat.and_lt_two_pow _ hc
  rw [u32_and_nat _ _ ha hb, u32_and_nat _ _ ha hc, u32_and_nat _ _ hb hc, u32_xor_nat _ _ h1 h2, u32_xor_nat _ _ (Nat.xor_lt_two_pow h1 h2) h3]
  rfl
theorem t1W_val (s : Sha.St) (hs : s.ok) (k x : Nat) : t1W s.e s.f s.g s.h k x = ((Sha.t1 s k x : Nat) : Int) := by
  obtain ⟨h0, h1, h2, h3, h4, h5, h6, h7⟩ := hs
  unfold t1W
  rw [ch_val _ _ _ h4 h5 h6]
  simp only [IntKind.wrap_u32']
  unfold Sha.t1
  omega
theorem t2W_val (s : Sha.St) (hs : s.ok) : t2W s.a s.b s.c = ((Sha.t2 s : Nat) : Int) := by
  obtain ⟨h0, h1, h2, h3, h4, h5, h6, h7⟩ := hs
  unfold t2W
  rw [maj_val _ _ _ h0 h1 h2]
  simp only [IntKind.wrap_u32']
  unfold Sha.t2
  omega
theorem round_any (b : Nat) (T : TypeId) (s : Sha.St) (hs : s.ok) (i x : Nat) {B : Nat} {aw ab : Addr} {w : World} (h : Glob B aw ab w)
    (hB : w.heap[b]? = some (.cells (row32 s) T (0, 0))) (hi : i < 64) :
    Calls Tryd.prog 66 #[.pointer (some ⟨b, 0, none⟩), .int .i64 (i : Int), .int .u32 (x : Int)] w fun e w' => e = .returned (.tuple #[]) ∧
      w'.heap[b]? = some (.cells (row32 (s.round (Sha.K.getD i 0) x)) T (0, 0)) ∧ Far (· = b) w w' := by
  have hk := h.const i hi
  have h6 := h.pos
  have ek : (Sha.K[i]'hi : Nat) = Sha.K.getD i 0 := by rw [List.getD_eq_getElem?_getD, List.getElem?_eq_getElem (show i < Sha.K.length from hi)]; rfl
  rw [ek] at hk
  refine (round_walk b T s.a s.b s.c s.d s.e s.f s.g s.h i x (Sha.K.getD i 0) w (by omega) hB hi hk hs.2.2.2.2.1 hs.1).mono ?_
  rintro e w' ⟨he, hb, hf⟩
  refine ⟨he, ?_, hf⟩
  rw [hb, t1W_val s hs, t2W_val s hs]
  have e1 : (((Sha.t1 s (Sha.K.getD i 0) x : Nat) : Int) + ((Sha.t2 s : Nat) : Int)) % 4294967296 = (((Sha.t1 s (Sha.K.getD i 0) x + Sha.t2 s) % 4294967296 : Nat) : Int) := by omega
  have e2 : ((s.d : Int) + ((Sha.t1 s (Sha.K.getD i 0) x : Nat) : Int)) % 4294967296 = (((s.d + Sha.t1 s (Sha.K.getD i 0) x) % 4294967296 : Nat) : Int) := by omega
  rw [e1, e2]
  rfl
theorem told_any (b : Nat) (T : TypeId) (s : Sha.St) (hs : s.ok) (w : World) (hB : w.heap[b]? = some (.cells (row32 s) T (0, 0))) :
    Calls Tryd.prog 67 #[.pointer (some ⟨b, 0, none⟩)] w fun e w' => e = .returned (.agg (row64 s)) ∧ Far NoneD w w' :=
  told_state b T s.a s.b s.c s.d s.e s.f s.g s.h w hB hs.1 hs.2.1 hs.2.2.1 hs.2.2.2.1 hs.2.2.2.2.1 hs.2.2.2.2.2.1 hs.2.2.2.2.2.2.1 hs.2.2.2.2.2.2.2
theorem add_any (b : Nat) (T : TypeId) (s t : Sha.St) (w : World) (hB : w.heap[b]? = some (.cells (row32 s) T (0, 0))) :
    Calls Tryd.prog 69 #[.pointer (some ⟨b, 0, none⟩), .agg (row32 t)] w fun e w' => e = .returned (.tuple #[]) ∧ w'.heap[b]? = some (.cells (row32 (s.add t)) T (0, 0)) ∧ Far (· = b) w w' := by
  refine (add_state b T s.a s.b s.c s.d s.e s.f s.g s.h t.a t.b t.c t.d t.e t.f t.g t.h w hB).mono ?_
  rintro e w' ⟨he, hb, hf⟩
  refine ⟨he, ?_, hf⟩
  rw [hb]
  simp only [row32, Sha.St.add, Int.natCast_emod, Int.natCast_add]
  rfl
end Go.Proofs.YtfafidholldjlaaDoor
/- Compress, over a block. -/
set_option linter.unusedVariables false
set_option linter.unusedSimpArgs false
namespace Go.Proofs.YtfafidholldjlaaDoor
open Go.RowKit
attribute [local go_sem] Oper.semAt_some
theorem of_any (s : Sha.St) (hs : s.ok) (w : World) :
    Calls Tryd.prog 65 #[.agg #[.int .i64 s.a, .int .i64 s.b, .int .i64 s.c, .int .i64 s.d, .int .i64 s.e, .int .i64 s.f, .int .i64 s.g, .int .i64 s.h]] w fun e w' => e = .returned (.tuple #[.agg #[.int .u32 s.a, .int .u32 s.b, .int .u32 s.c, .int .u32 s.d, .int .u32 s.e, .int .u32 s.f, .int .u32 s.g, .int .u32 s.h], .nilIface]) ∧ Below w.heap.size w w' := by
  obtain ⟨h0, h1, h2, h3, h4, h5, h6, h7⟩ := hs
  exact of_ok s.a s.b s.c s.d s.e s.f s.g s.h w (by omega) (by omega) (by omega) (by omega) (by omega) (by omega) (by omega) (by omega) (by omega) (by omega) (by omega) (by omega) (by omega) (by omega) (by omega) (by omega)
theorem results29 (tmps : Array Value) (w : World) (b : Nat) (v0 v1 v2 v3 v4 v5 v6 v7 e : Value) (h4 : tmps.getD 4 undef = .pointer (some ⟨b, 0, none⟩)) (h5 : tmps.getD 5 undef = e) (hb : w.heap[b]? = some (.cells #[v0, v1, v2, v3, v4, v5, v6, v7] 23 (0, 0))) :
    (results Tryd.f29 tmps).run Tryd.prog w = .ok (.tuple #[.agg #[v0, v1, v2, v3, v4, v5, v6, v7], e]) w := by
  have c0 : w.cell? ⟨b, 0, none⟩ = some v0 := cell_of hb 0
  have c1 : w.cell? ⟨b, 1, none⟩ = some v1 := cell_of hb 1
  have c2 : w.cell? ⟨b, 2, none⟩ = some v2 := cell_of hb 2
  have c3 : w.cell? ⟨b, 3, none⟩ = some v3 := cell_of hb 3
  have c4 : w.cell? ⟨b, 4, none⟩ = some v4 := cell_of hb 4
  have c5 : w.cell? ⟨b, 5, none⟩ = some v5 := cell_of hb 5
  have c6 : w.cell? ⟨b, 6, none⟩ = some v6 := cell_of hb 6
  have c7 : w.cell? ⟨b, 7, none⟩ = some v7 := cell_of hb 7
  simp only [Array.getD_eq_getD_getElem?] at h4 h5
  simp [results, Tryd.results29, go_sem, h4, h5, c0, c1, c2, c3, c4, c5, c6, c7]
set_option maxRecDepth 100000 in
set_option maxHeartbeats 2000000 in
theorem compress_ok {B : Nat} {aw ab : Addr} {w : World} (h : Glob B aw ab w) (s : Sha.St) (hs : s.ok) (blk : ByteArray) (hb : blk.size = 64) :
    Calls Tryd.prog 29 #[.agg #[.int .i64 s.a, .int .i64 s.b, .int .i64 s.c, .int .i64 s.d, .int .i64 s.e, .int .i64 s.f, .int .i64 s.g, .int .i64 s.h], .string blk] w fun e w' => e = .returned (.tuple #[.agg (row64 (s.compress (byteAt blk))), .int .i64 0]) ∧ Below w.heap.size w w' := by
  have Hb := Lib.hid hb
  have Hs := Lib.hid hs
  clear hb hs
  refine callsIn_wide.1 (callsIn_of_wp_marks (n := 5) Tryd.func29 rfl trivial (wpIn_wide.2 ?_))
  simp only [Tryd.ntmps29, List.size_toArray, List.length_cons, List.length_nil, Nat.reduceAdd, Nat.reduceSub, Array.replicate_succ, Array.replicate_zero, List.push_toArray, List.append_toArray, List.nil_append, List.cons_append]
  go_wp2_with fail
  refine (of_any s Hs.out _).mono ?_
  rintro e w1 ⟨rfl, hb1⟩
  go_wp2_with fail
  refine (checkBlock_ok blk _ Hb.out).mono ?_
  rintro e w' ⟨rfl, rfl⟩
  go_wp2_with fail
  refine (words_any blk _).mono ?_
  rintro e w2 ⟨rfl, hT⟩
  go_wp2_with fail
  obtain ⟨T', hbs, hbw, hbl, hsz⟩ := hT
  simp only [World.size_alloc] at hbs hbw hbl hsz hb1
  have z1 : w.heap.size + 2 ≤ w1.heap.size := by have := hb1.size; simp at this; omega
  have k0 : w2.heap[w1.heap.size]? = some (.cells #[.int .u32 s.a, .int .u32 s.b, .int .u32 s.c, .int .u32 s.d, .int .u32 s.e, .int .u32 s.f, .int .u32 s.g, .int .u32 s.h] 78 (0, 0)) := (hbl.block _ (by omega)).trans (alloc_heap_old _ (alloc_heap_old _ (alloc_heap_old _ (alloc_heap _ _))))
  have k1 : w2.heap[w1.heap.size + 1]? = some (.cells (row32 s) 83 (0, 0)) := (hbl.block _ (by omega)).trans (alloc_heap_old _ (alloc_heap_old _ (alloc_heap_at _ _ _ (by simp))))
  have k2 : w2.heap[w1.heap.size + 1 + 1]? = some (.cells #[.pointer (some ⟨w1.heap.size + 1, 0, none⟩)] 81 (0, 0)) := (hbl.block _ (by omega)).trans (alloc_heap_old _ (alloc_heap_at _ _ _ (by simp)))
  have k3 : w2.heap[w1.heap.size + 1 + 1 + 1]? = some (.cells #[.int .i64 0] 3 (0, 0)) := (hbl.block _ (by omega)).trans (alloc_heap_at _ _ _ (by simp))
  have hw2 : Below w1.heap.size w1 w2 := (((((Below.refl _ _).alloc (Nat.le_refl _) _).alloc (by simp) _).alloc (by simp; omega) _).alloc (by simp; omega) _).trans (hbl.mono (by omega))
  have kc : w2.heap[w.heap.size + 1]? = some (.cells #[.int .i64 0, .int .i64 0, .int .i64 0, .int .i64 0, .int .i64 0, .int .i64 0, .int .i64 0, .int .i64 0] 23 (0, 0)) := (hw2.block _ (by omega)).trans ((hb1.block _ (by omega)).trans (alloc_heap_at _ _ _ (by simp)))
  have kb : w2.heap[w.heap.size]? = some (.cells #[.int .i64 s.a, .int .i64 s.b, .int .i64 s.c, .int .i64 s.d, .int .i64 s.e, .int .i64 s.f, .int .i64 s.g, .int .i64 s.h] 23 (0, 0)) := (hw2.block _ (by omega)).trans ((hb1.block _ (by omega)).trans (alloc_heap_old _ (alloc_heap _ _)))
  have hw : Below w.heap.size w w2 := (((Below.refl _ w).alloc (Nat.le_refl _) _).alloc (by simp) _).trans ((hb1.mono (by omega)).trans (hw2.mono (by omega)))
  have hs1 : w1.heap.size + 6 = w2.heap.size := by omega
  have Hs1 := Lib.hid hs1
  have hlt2 : w1.heap.size + 5 < w2.heap.size := by omega
  clear hsz hs1 hbl hb1
  have hGl : ∀ W, Below w1.heap.size w2 W → Glob B aw ab W := fun W hW => h.below ((hw.mono h.size).trans (hW.mono (by have := h.size; omega)))
  have K0 := Lib.hid k0
  have K1 := Lib.hid k1
  have K2 := Lib.hid k2
  have K3 := Lib.hid k3
  have KC := Lib.hid kc
  have KB := Lib.hid kb
  have HG := Lib.hid hGl
  clear k0 k1 k2 k3 kc kb hGl
  refine wpIn_wide.1 (range_law (n := 5) (gf := 82) (lb := #[.pointer (some ⟨w1.heap.size + 1 + 1 + 1 + 1, 0, none⟩), .pointer (some ⟨w1.heap.size + 1 + 1 + 1 + 1 + 1, 0, none⟩)]) rfl (fun args wx => enters82 args wx)
    (words_iter blk Hb.out _ _ _ _ w2 hbs hbw (by omega)) (fun k e => by subst e; exact lt_of_heap hbw) (fun k e => by rcases e with rfl | rfl; exact lt_of_heap hbs; exact lt_of_heap hbw) (fun _ => rfl)
    (fun t W => W.heap[w1.heap.size + 1]? = some (.cells (row32 (s.rounds (byteAt blk) t)) 83 (0, 0)) ∧ W.heap[w1.heap.size + 1 + 1]? = some (.cells #[.pointer (some ⟨w1.heap.size + 1, 0, none⟩)] 81 (0, 0)) ∧ W.heap[w1.heap.size + 1 + 1 + 1]? = some (.cells #[.int .i64 (t : Int)] 3 (0, 0)) ∧ W.heap[w1.heap.size]? = some (.cells #[.int .u32 s.a, .int .u32 s.b, .int .u32 s.c, .int .u32 s.d, .int .u32 s.e, .int .u32 s.f, .int .u32 s.g, .int .u32 s.h] 78 (0, 0)) ∧ Below w1.heap.size w2 W)
    (fun _ _ => False) ?hI (fun _ _ _ h _ => h) (fun _ _ _ h => h) ?h0 (fun t => { tmps := #[Value.agg #[.int .i64 s.a, .int .i64 s.b, .int .i64 s.c, .int .i64 s.d, .int .i64 s.e, .int .i64 s.f, .int .i64 s.g, .int .i64 s.h], Value.string blk, Value.pointer (some ⟨w.heap.size, 0, none⟩), undef, Value.pointer (some ⟨w.heap.size + 1, 0, none⟩), Value.int .i64 0,
      Value.pointer (some ⟨w1.heap.size, 0, none⟩), Value.nilIface, Value.pointer (some ⟨w1.heap.size + 1 + 1, 0, none⟩), Value.pointer (some ⟨w1.heap.size + 1 + 1 + 1, 0, none⟩), .int .u32 (Sha.word (byteAt blk) t : Nat),
      Value.tuple #[Value.agg #[.int .u32 s.a, .int .u32 s.b, .int .u32 s.c, .int .u32 s.d, .int .u32 s.e, .int .u32 s.f, .int .u32 s.g, .int .u32 s.h], Value.nilIface], Value.agg #[.int .i64 s.a, .int .i64 s.b, .int .i64 s.c, .int .i64 s.d, .int .i64 s.e, .int .i64 s.f, .int .i64 s.g, .int .i64 s.h], Value.tuple #[Value.agg #[.int .u32 s.a, .int .u32 s.b, .int .u32 s.c, .int .u32 s.d, .int .u32 s.e, .int .u32 s.f, .int .u32 s.g, .int .u32 s.h], Value.nilIface], Value.agg #[.int .u32 s.a, .int .u32 s.b, .int .u32 s.c, .int .u32 s.d, .int .u32 s.e, .int .u32 s.f, .int .u32 s.g, .int .u32 s.h], Value.nilIface, Value.nilIface, Value.bool true, Value.string blk, Value.nilIface, Value.nilIface,
      Value.bool false, undef, undef, undef, Value.agg #[.int .u32 s.a, .int .u32 s.b, .int .u32 s.c, .int .u32 s.d, .int .u32 s.e, .int .u32 s.f, .int .u32 s.g, .int .u32 s.h], Value.agg #[.int .u32 s.a, .int .u32 s.b, .int .u32 s.c, .int .u32 s.d, .int .u32 s.e, .int .u32 s.f, .int .u32 s.g, .int .u32 s.h], Value.pointer (some ⟨w1.heap.size + 1, 0, none⟩), Value.string blk,
      Value.func (Fn.func 82) #[] #[Value.pointer (some ⟨w1.heap.size + 1 + 1 + 1 + 1, 0, none⟩), Value.pointer (some ⟨w1.heap.size + 1 + 1 + 1 + 1 + 1, 0, none⟩)], .int .u32 (Sha.word (byteAt blk) t : Nat),
      undef, undef, undef, undef, undef, undef, undef, undef, undef, undef, undef, undef, undef, undef, undef, undef, undef, undef, undef, undef, undef, undef], defers := [] }) ?assign ?body ?done (fun _ _ h _ => h.elim))
  case hI =>
    rintro t W W' ⟨q1, q2, q3, q0, hb⟩ hf
    exact ⟨hf.heap q1 (by omega), hf.heap q2 (by omega), hf.heap q3 (by omega), hf.heap q0 (by omega), hb.trans (hf.to_below (by have := hb.size; omega) (by omega))⟩
  case h0 => exact ⟨K1.out, K2.out, K3.out, K0.out, Below.refl _ _⟩
  case assign =>
    intro t W K hK
    gi_wp2
    exact hK
  case body =>
    rintro t W ht hlt ⟨q1, q2, q3, q0, hb⟩
    have c2 : W.cell? ⟨w1.heap.size + 1 + 1, 0, none⟩ = some (.pointer (some ⟨w1.heap.size + 1, 0, none⟩)) := cell_of q2 0
    have c3 : W.cell? ⟨w1.heap.size + 1 + 1 + 1, 0, none⟩ = some (.int .i64 (t : Int)) := cell_of q3 0
    have hrd := round_any (w1.heap.size + 1) 83 (s.rounds (byteAt blk) t) (Sha.St.rounds_ok Hs.out _ t) t (Sha.word (byteAt blk) t) (HG.out W hb) q1 ht
    have HR := Lib.hid hrd
    have Q1 := Lib.hid q1
    have Q2 := Lib.hid q2
    have Q3 := Lib.hid q3
    have Q0 := Lib.hid q0
    clear hrd q1 q2 q3 q0
    gi_wp2_with fail
    refine ⟨trivial, (CallsIn.inRound _ (callsIn_wide.2 HR.out)).mono ?_⟩
    rintro e W3 ⟨rfl, hr3, hf3⟩
    have c3' : W3.cell? ⟨w1.heap.size + 1 + 1 + 1, 0, none⟩ = some (.int .i64 (t : Int)) := cell_of (hf3.heap Q3.out (by omega)) 0
    have f3' : W3.frozen? ⟨w1.heap.size + 1 + 1 + 1, 0, none⟩ = false := frozen_of (hf3.heap Q3.out (by omega)) 0
    have R3 := Lib.hid hr3
    have F3 := Lib.hid hf3
    clear hr3 hf3
    gi_wp2_with fail
    have hN : Below w1.heap.size w2 W3 := hb.trans (F3.out.to_below (by have := hb.size; omega) (by omega))
    refine ⟨⟨(Below.heap_setCell _ _ _ _ (by simp)).trans R3.out, (Below.heap_setCell _ _ _ _ (by simp)).trans (F3.out.heap Q2.out (by omega)), ?_, (Below.heap_setCell _ _ _ _ (by simp; omega)).trans (F3.out.heap Q0.out (by omega)), hN.setCell (p := ⟨w1.heap.size + 1 + 1 + 1, 0, none⟩) (by simp; omega) _⟩, ?_⟩
    · exact setCell_heap (F3.out.heap Q3.out (by omega)) 0 _
    · exact (F3.out.mono (fun k _ e => by subst e; omega)).setCell (fun _ e => by simp only at e; omega) _
  case done =>
    rintro W ⟨q1, q2, q3, q0, hb⟩ hK
    have c2 : W.cell? ⟨w1.heap.size + 1 + 1, 0, none⟩ = some (.pointer (some ⟨w1.heap.size + 1, 0, none⟩)) := cell_of q2 0
    obtain ⟨S, hS⟩ : ∃ S, s.rounds (byteAt blk) 64 = S := ⟨_, rfl⟩
    rw [hS] at q1
    have d0 : W.cell? ⟨w1.heap.size + 1, 0, none⟩ = some (.int .u32 S.a) := cell_of q1 0
    have d1 : W.cell? ⟨w1.heap.size + 1, 1, none⟩ = some (.int .u32 S.b) := cell_of q1 1
    have d2 : W.cell? ⟨w1.heap.size + 1, 2, none⟩ = some (.int .u32 S.c) := cell_of q1 2
    have d3 : W.cell? ⟨w1.heap.size + 1, 3, none⟩ = some (.int .u32 S.d) := cell_of q1 3
    have d4 : W.cell? ⟨w1.heap.size + 1, 4, none⟩ = some (.int .u32 S.e) := cell_of q1 4
    have d5 : W.cell? ⟨w1.heap.size + 1, 5, none⟩ = some (.int .u32 S.f) := cell_of q1 5
    have d6 : W.cell? ⟨w1.heap.size + 1, 6, none⟩ = some (.int .u32 S.g) := cell_of q1 6
    have d7 : W.cell? ⟨w1.heap.size + 1, 7, none⟩ = some (.int .u32 S.h) := cell_of q1 7
    have Q0 := Lib.hid q0
    have Q1 := Lib.hid q1
    have Q2 := Lib.hid q2
    have HSS := Lib.hid hS
    have HK := Lib.hid hK
    clear q0 q1 q2 q3 hK hS
    by_cases hz : S = Sha.St.zero
    · have hz8 : eq8 [(S.a : Int), S.b, S.c, S.d, S.e, S.f, S.g, S.h] [0, 0, 0, 0, 0, 0, 0, 0] = true := by rw [hz]; rfl
      have hb0 : W.heap[w.heap.size]? = some (.cells #[.int .i64 s.a, .int .i64 s.b, .int .i64 s.c, .int .i64 s.d, .int .i64 s.e, .int .i64 s.f, .int .i64 s.g, .int .i64 s.h] 23 (0, 0)) := (hb.block _ (by omega)).trans KB.out
      have hc0 : W.heap[w.heap.size + 1]? = some (.cells #[.int .i64 0, .int .i64 0, .int .i64 0, .int .i64 0, .int .i64 0, .int .i64 0, .int .i64 0, .int .i64 0] 23 (0, 0)) := (hb.block _ (by omega)).trans KC.out
      have x0 : W.cell? ⟨w.heap.size, 0, none⟩ = some (.int .i64 s.a) := cell_of hb0 0
      have x1 : W.cell? ⟨w.heap.size, 1, none⟩ = some (.int .i64 s.b) := cell_of hb0 1
      have x2 : W.cell? ⟨w.heap.size, 2, none⟩ = some (.int .i64 s.c) := cell_of hb0 2
      have x3 : W.cell? ⟨w.heap.size, 3, none⟩ = some (.int .i64 s.d) := cell_of hb0 3
      have x4 : W.cell? ⟨w.heap.size, 4, none⟩ = some (.int .i64 s.e) := cell_of hb0 4
      have x5 : W.cell? ⟨w.heap.size, 5, none⟩ = some (.int .i64 s.f) := cell_of hb0 5
      have x6 : W.cell? ⟨w.heap.size, 6, none⟩ = some (.int .i64 s.g) := cell_of hb0 6
      have x7 : W.cell? ⟨w.heap.size, 7, none⟩ = some (.int .i64 s.h) := cell_of hb0 7
      have HC0 := Lib.hid hc0
      have y0 : W.cell? ⟨w.heap.size + 1, 0, none⟩ = some (.int .i64 0) := cell_of hc0 0
      have f0 : W.frozen? ⟨w.heap.size + 1, 0, none⟩ = false := frozen_of hc0 0
      have y1 : W.cell? ⟨w.heap.size + 1, 1, none⟩ = some (.int .i64 0) := cell_of hc0 1
      have f1 : W.frozen? ⟨w.heap.size + 1, 1, none⟩ = false := frozen_of hc0 1
      have y2 : W.cell? ⟨w.heap.size + 1, 2, none⟩ = some (.int .i64 0) := cell_of hc0 2
      have f2 : W.frozen? ⟨w.heap.size + 1, 2, none⟩ = false := frozen_of hc0 2
      have y3 : W.cell? ⟨w.heap.size + 1, 3, none⟩ = some (.int .i64 0) := cell_of hc0 3
      have f3 : W.frozen? ⟨w.heap.size + 1, 3, none⟩ = false := frozen_of hc0 3
      have y4 : W.cell? ⟨w.heap.size + 1, 4, none⟩ = some (.int .i64 0) := cell_of hc0 4
      have f4 : W.frozen? ⟨w.heap.size + 1, 4, none⟩ = false := frozen_of hc0 4
      have y5 : W.cell? ⟨w.heap.size + 1, 5, none⟩ = some (.int .i64 0) := cell_of hc0 5
      have f5 : W.frozen? ⟨w.heap.size + 1, 5, none⟩ = false := frozen_of hc0 5
      have y6 : W.cell? ⟨w.heap.size + 1, 6, none⟩ = some (.int .i64 0) := cell_of hc0 6
      have f6 : W.frozen? ⟨w.heap.size + 1, 6, none⟩ = false := frozen_of hc0 6
      have y7 : W.cell? ⟨w.heap.size + 1, 7, none⟩ = some (.int .i64 0) := cell_of hc0 7
      have f7 : W.frozen? ⟨w.heap.size + 1, 7, none⟩ = false := frozen_of hc0 7
      clear hb0 hc0
      go_wp2_with fail
      have hX := store8 W (w.heap.size + 1) 23 _ _ _ _ _ _ _ _ (.int .i64 s.a) (.int .i64 s.b) (.int .i64 s.c) (.int .i64 s.d) (.int .i64 s.e) (.int .i64 s.f) (.int .i64 s.g) (.int .i64 s.h) HC0.out
      have hXb := below8 W (w.heap.size + 1) (.int .i64 s.a) (.int .i64 s.b) (.int .i64 s.c) (.int .i64 s.d) (.int .i64 s.e) (.int .i64 s.f) (.int .i64 s.g) (.int .i64 s.h) (hw.trans (hb.mono (by omega))) (by omega)
      have hXd : ((((((((W.setCell ⟨w.heap.size + 1, 0, none⟩ (.int .i64 s.a)).setCell ⟨w.heap.size + 1, 1, none⟩ (.int .i64 s.b)).setCell ⟨w.heap.size + 1, 2, none⟩ (.int .i64 s.c)).setCell ⟨w.heap.size + 1, 3, none⟩ (.int .i64 s.d)).setCell ⟨w.heap.size + 1, 4, none⟩ (.int .i64 s.e)).setCell ⟨w.heap.size + 1, 5, none⟩ (.int .i64 s.f)).setCell ⟨w.heap.size + 1, 6, none⟩ (.int .i64 s.g)).setCell ⟨w.heap.size + 1, 7, none⟩ (.int .i64 s.h)).heap[w2.heap.size]? = some (.deferred (some [])) := by
        exact (other8 W (w.heap.size + 1) w2.heap.size (.int .i64 s.a) (.int .i64 s.b) (.int .i64 s.c) (.int .i64 s.d) (.int .i64 s.e) (.int .i64 s.f) (.int .i64 s.g) (.int .i64 s.h) (by have := hw.size; omega)).trans HK.out
      generalize ((((((((W.setCell ⟨w.heap.size + 1, 0, none⟩ (.int .i64 s.a)).setCell ⟨w.heap.size + 1, 1, none⟩ (.int .i64 s.b)).setCell ⟨w.heap.size + 1, 2, none⟩ (.int .i64 s.c)).setCell ⟨w.heap.size + 1, 3, none⟩ (.int .i64 s.d)).setCell ⟨w.heap.size + 1, 4, none⟩ (.int .i64 s.e)).setCell ⟨w.heap.size + 1, 5, none⟩ (.int .i64 s.f)).setCell ⟨w.heap.size + 1, 6, none⟩ (.int .i64 s.g)).setCell ⟨w.heap.size + 1, 7, none⟩ (.int .i64 s.h)) = X at hX hXb hXd
      refine ⟨by simp, .inl ⟨_, _, rfl, run_takeDeferred hXd, ?_⟩⟩
      have hp := far_putObj X w2.heap.size (.deferred none)
      refine ⟨_, results29 _ _ (w.heap.size + 1) _ _ _ _ _ _ _ _ _ rfl rfl (hp.heap hX (by omega)), ?_, hXb.trans (hp.to_below hXb.size (by omega))⟩
      have hcz : s.compress (byteAt blk) = s := by unfold Sha.St.compress; rw [HSS.out, hz, Sha.St.add_zero Hs.out]
      rw [hcz]
      rfl
    · have hz8 : eq8 [(S.a : Int), S.b, S.c, S.d, S.e, S.f, S.g, S.h] [0, 0, 0, 0, 0, 0, 0, 0] = false := by
        rw [Bool.eq_false_iff]
        intro h
        rw [eq8_iff] at h
        injection h with a1 h; injection h with a2 h; injection h with a3 h; injection h with a4 h; injection h with a5 h; injection h with a6 h; injection h with a7 h; injection h with a8 h
        apply hz
        cases S
        simp only [Sha.St.zero, Sha.St.mk.injEq]
        simp only at a1 a2 a3 a4 a5 a6 a7 a8
        omega
      have hc0 : W.heap[w.heap.size + 1]? = some (.cells #[.int .i64 0, .int .i64 0, .int .i64 0, .int .i64 0, .int .i64 0, .int .i64 0, .int .i64 0, .int .i64 0] 23 (0, 0)) := (hb.block _ (by omega)).trans KC.out
      have x0 : W.cell? ⟨w1.heap.size, 0, none⟩ = some (.int .u32 s.a) := cell_of Q0.out 0
      have x1 : W.cell? ⟨w1.heap.size, 1, none⟩ = some (.int .u32 s.b) := cell_of Q0.out 1
      have x2 : W.cell? ⟨w1.heap.size, 2, none⟩ = some (.int .u32 s.c) := cell_of Q0.out 2
      have x3 : W.cell? ⟨w1.heap.size, 3, none⟩ = some (.int .u32 s.d) := cell_of Q0.out 3
      have x4 : W.cell? ⟨w1.heap.size, 4, none⟩ = some (.int .u32 s.e) := cell_of Q0.out 4
      have x5 : W.cell? ⟨w1.heap.size, 5, none⟩ = some (.int .u32 s.f) := cell_of Q0.out 5
      have x6 : W.cell? ⟨w1.heap.size, 6, none⟩ = some (.int .u32 s.g) := cell_of Q0.out 6
      have x7 : W.cell? ⟨w1.heap.size, 7, none⟩ = some (.int .u32 s.h) := cell_of Q0.out 7
      have HC0 := Lib.hid hc0
      clear hc0 hz
      go_wp2_with fail
      go_still_tail 4, (by kernel_rfl)
      change wpList _ _ _ _ _ W.drew
      have q1 : W.drew.heap[w1.heap.size + 1]? = some (.cells (row32 S) 83 (0, 0)) := Q1.out
      have q2 : W.drew.heap[w1.heap.size + 1 + 1]? = some (.cells #[.pointer (some ⟨w1.heap.size + 1, 0, none⟩)] 81 (0, 0)) := Q2.out
      have qc : W.drew.heap[w.heap.size + 1]? = some (.cells #[.int .i64 0, .int .i64 0, .int .i64 0, .int .i64 0, .int .i64 0, .int .i64 0, .int .i64 0, .int .i64 0] 23 (0, 0)) := HC0.out
      have qk : W.drew.heap[w2.heap.size]? = some (.deferred (some [])) := HK.out
      have qb : Below w1.heap.size w2 W.drew := hb.drew
      generalize W.drew = Wd at q1 q2 qc qk qb ⊢
      clear x0 x1 x2 x3 x4 x5 x6 x7 d0 d1 d2 d3 d4 d5 d6 d7 c2 hb
      have R1 := Lib.hid q1
      have R2 := Lib.hid q2
      have RC := Lib.hid qc
      have RK := Lib.hid qk
      clear q1 q2 qc qk
      go_wp2_with fail
      refine (add_any (w1.heap.size + 1) 83 S s Wd R1.out).mono ?_
      rintro e W3 ⟨rfl, ha3, hf3⟩
      have c2 : W3.cell? ⟨w1.heap.size + 1 + 1, 0, none⟩ = some (.pointer (some ⟨w1.heap.size + 1, 0, none⟩)) := cell_of (hf3.heap R2.out (by omega)) 0
      have A3 := Lib.hid ha3
      have F3 := Lib.hid hf3
      clear ha3 hf3
      go_wp2_with fail
      refine (told_any (w1.heap.size + 1) 83 (S.add s) (Sha.St.add_ok _ _) W3 A3.out).mono ?_
      rintro e W4 ⟨rfl, hf4⟩
      have hc4 : W4.heap[w.heap.size + 1]? = some (.cells #[.int .i64 0, .int .i64 0, .int .i64 0, .int .i64 0, .int .i64 0, .int .i64 0, .int .i64 0, .int .i64 0] 23 (0, 0)) := hf4.heap (F3.out.heap RC.out (by omega)) (fun e => e)
      have hk4 : W4.heap[w2.heap.size]? = some (.deferred (some [])) := hf4.heap (F3.out.heap RK.out (by omega)) (fun e => e)
      have hb4 : Below w1.heap.size w2 W4 := (qb.trans (F3.out.to_below (by have := qb.size; omega) (by omega))).trans (hf4.to_below (by have := qb.size; have := F3.out.size; omega) (fun _ _ e => e))
      unfold row64
      have y0 : W4.cell? ⟨w.heap.size + 1, 0, none⟩ = some (.int .i64 0) := cell_of hc4 0
      have f0 : W4.frozen? ⟨w.heap.size + 1, 0, none⟩ = false := frozen_of hc4 0
      have y1 : W4.cell? ⟨w.heap.size + 1, 1, none⟩ = some (.int .i64 0) := cell_of hc4 1
      have f1 : W4.frozen? ⟨w.heap.size + 1, 1, none⟩ = false := frozen_of hc4 1
      have y2 : W4.cell? ⟨w.heap.size + 1, 2, none⟩ = some (.int .i64 0) := cell_of hc4 2
      have f2 : W4.frozen? ⟨w.heap.size + 1, 2, none⟩ = false := frozen_of hc4 2
      have y3 : W4.cell? ⟨w.heap.size + 1, 3, none⟩ = some (.int .i64 0) := cell_of hc4 3
      have f3 : W4.frozen? ⟨w.heap.size + 1, 3, none⟩ = false := frozen_of hc4 3
      have y4 : W4.cell? ⟨w.heap.size + 1, 4, none⟩ = some (.int .i64 0) := cell_of hc4 4
      have f4 : W4.frozen? ⟨w.heap.size + 1, 4, none⟩ = false := frozen_of hc4 4
      have y5 : W4.cell? ⟨w.heap.size + 1, 5, none⟩ = some (.int .i64 0) := cell_of hc4 5
      have f5 : W4.frozen? ⟨w.heap.size + 1, 5, none⟩ = false := frozen_of hc4 5
      have y6 : W4.cell? ⟨w.heap.size + 1, 6, none⟩ = some (.int .i64 0) := cell_of hc4 6
      have f6 : W4.frozen? ⟨w.heap.size + 1, 6, none⟩ = false := frozen_of hc4 6
      have y7 : W4.cell? ⟨w.heap.size + 1, 7, none⟩ = some (.int .i64 0) := cell_of hc4 7
      have f7 : W4.frozen? ⟨w.heap.size + 1, 7, none⟩ = false := frozen_of hc4 7
      have HC4 := Lib.hid hc4
      have HK4 := Lib.hid hk4
      clear hc4 hk4 hf4 c2
      go_wp2_with fail
      have hX := store8 W4 (w.heap.size + 1) 23 _ _ _ _ _ _ _ _ (.int .i64 (S.add s).a) (.int .i64 (S.add s).b) (.int .i64 (S.add s).c) (.int .i64 (S.add s).d) (.int .i64 (S.add s).e) (.int .i64 (S.add s).f) (.int .i64 (S.add s).g) (.int .i64 (S.add s).h) HC4.out
      have hXb := below8 W4 (w.heap.size + 1) (.int .i64 (S.add s).a) (.int .i64 (S.add s).b) (.int .i64 (S.add s).c) (.int .i64 (S.add s).d) (.int .i64 (S.add s).e) (.int .i64 (S.add s).f) (.int .i64 (S.add s).g) (.int .i64 (S.add s).h) (hw.trans (hb4.mono (by omega))) (by omega)
      have hXd : ((((((((W4.setCell ⟨w.heap.size + 1, 0, none⟩ (.int .i64 (S.add s).a)).setCell ⟨w.heap.size + 1, 1, none⟩ (.int .i64 (S.add s).b)).setCell ⟨w.heap.size + 1, 2, none⟩ (.int .i64 (S.add s).c)).setCell ⟨w.heap.size + 1, 3, none⟩ (.int .i64 (S.add s).d)).setCell ⟨w.heap.size + 1, 4, none⟩ (.int .i64 (S.add s).e)).setCell ⟨w.heap.size + 1, 5, none⟩ (.int .i64 (S.add s).f)).setCell ⟨w.heap.size + 1, 6, none⟩ (.int .i64 (S.add s).g)).setCell ⟨w.heap.size + 1, 7, none⟩ (.int .i64 (S.add s).h)).heap[w2.heap.size]? = some (.deferred (some [])) := (other8 W4 (w.heap.size + 1) w2.heap.size (.int .i64 (S.add s).a) (.int .i64 (S.add s).b) (.int .i64 (S.add s).c) (.int .i64 (S.add s).d) (.int .i64 (S.add s).e) (.int .i64 (S.add s).f) (.int .i64 (S.add s).g) (.int .i64 (S.add s).h) (by have := hw.size; omega)).trans HK4.out
      generalize ((((((((W4.setCell ⟨w.heap.size + 1, 0, none⟩ (.int .i64 (S.add s).a)).setCell ⟨w.heap.size + 1, 1, none⟩ (.int .i64 (S.add s).b)).setCell ⟨w.heap.size + 1, 2, none⟩ (.int .i64 (S.add s).c)).setCell ⟨w.heap.size + 1, 3, none⟩ (.int .i64 (S.add s).d)).setCell ⟨w.heap.size + 1, 4, none⟩ (.int .i64 (S.add s).e)).setCell ⟨w.heap.size + 1, 5, none⟩ (.int .i64 (S.add s).f)).setCell ⟨w.heap.size + 1, 6, none⟩ (.int .i64 (S.add s).g)).setCell ⟨w.heap.size + 1, 7, none⟩ (.int .i64 (S.add s).h)) = X at hX hXb hXd
      refine ⟨by simp, .inl ⟨_, _, rfl, run_takeDeferred hXd, ?_⟩⟩
      have hp := far_putObj X w2.heap.size (.deferred none)
      refine ⟨_, results29 _ _ (w.heap.size + 1) _ _ _ _ _ _ _ _ _ rfl rfl (hp.heap hX (by omega)), ?_, hXb.trans (hp.to_below hXb.size (by omega))⟩
      have hcz : s.compress (byteAt blk) = S.add s := by unfold Sha.St.compress; rw [HSS.out]
      rw [hcz]
      rfl
end Go.Proofs.YtfafidholldjlaaDoor
/- The rounds' errors; First. -/
set_option linter.unusedVariables false
set_option linter.unusedSimpArgs false
namespace Go.Proofs.YtfafidholldjlaaDoor
open Go.RowKit
/-- Eight numbers that are words. -/
def Words8 (s0 s1 s2 s3 s4 s5 s6 s7 : Int) : Prop := (0 ≤ s0 ∧ s0 ≤ 4294967295) ∧ (0 ≤ s1 ∧ s1 ≤ 4294967295) ∧ (0 ≤ s2 ∧ s2 ≤ 4294967295) ∧ (0 ≤ s3 ∧ s3 ≤ 4294967295) ∧ (0 ≤ s4 ∧ s4 ≤ 4294967295) ∧ (0 ≤ s5 ∧ s5 ≤ 4294967295) ∧ (0 ≤ s6 ∧ s6 ≤ 4294967295) ∧ (0 ≤ s7 ∧ s7 ≤ 4294967295)
theorem of_bad (s0 s1 s2 s3 s4 s5 s6 s7 : Int) (hbad : ¬ Words8 s0 s1 s2 s3 s4 s5 s6 s7) {B : Nat} {aw ab : Addr} {w : World} (h : Glob B aw ab w) :
    Calls Tryd.prog 65 #[.agg #[.int .i64 s0, .int .i64 s1, .int .i64 s2, .int .i64 s3, .int .i64 s4, .int .i64 s5, .int .i64 s6, .int .i64 s7]] w fun e w' => e = .returned (.tuple #[.agg #[.int .u32 0, .int .u32 0, .int .u32 0, .int .u32 0, .int .u32 0, .int .u32 0, .int .u32 0, .int .u32 0], .iface 174 (.pointer (some aw))]) ∧ Below w.heap.size w w' := by
  have hz : 0 < w.heap.size := by have := h.pos; omega
  have hw := h.word
  by_cases c0 : s0 < 0
  · exact of_lo0 s0 s1 s2 s3 s4 s5 s6 s7 w _ _ hz hw  c0
  have a0 : 0 ≤ s0 := by omega
  by_cases d0 : 4294967295 < s0
  · exact of_hi0 s0 s1 s2 s3 s4 s5 s6 s7 w _ _ hz hw  d0
  have b0 : s0 ≤ 4294967295 := by omega
  by_cases c1 : s1 < 0
  · exact of_lo1 s0 s1 s2 s3 s4 s5 s6 s7 w _ _ hz hw a0 b0 c1
  have a1 : 0 ≤ s1 := by omega
  by_cases d1 : 4294967295 < s1
  · exact of_hi1 s0 s1 s2 s3 s4 s5 s6 s7 w _ _ hz hw a0 b0 d1
  have b1 : s1 ≤ 4294967295 := by omega
  by_cases c2 : s2 < 0
  · exact of_lo2 s0 s1 s2 s3 s4 s5 s6 s7 w _ _ hz hw a0 b0 a1 b1 c2
  have a2 : 0 ≤ s2 := by omega
  by_cases d2 : 4294967295 < s2
  · exact of_hi2 s0 s1 s2 s3 s4 s5 s6 s7 w _ _ hz hw a0 b0 a1 b1 d2
  have b2 : s2 ≤ 4294967295 := by omega
  by_cases c3 : s3 < 0
  · exact of_lo3 s0 s1 s2 s3 s4 s5 s6 s7 w _ _ hz hw a0 b0 a1 b1 a2 b2 c3
  have a3 : 0 ≤ s3 := by omega
  by_cases d3 : 4294967295 < s3
  · exact of_hi3 s0 s1 s2 s3 s4 s5 s6 s7 w _ _ hz hw a0 b0 a1 b1 a2 b2 d3
  have b3 : s3 ≤ 4294967295 := by omega
  by_cases c4 : s4 < 0
  · exact of_lo4 s0 s1 s2 s3 s4 s5 s6 s7 w _ _ hz hw a0 b0 a1 b1 a2 b2 a3 b3 c4
  have a4 : 0 ≤ s4 := by omega
  by_cases d4 : 4294967295 < s4
  · exact of_hi4 s0 s1 s2 s3 s4 s5 s6 s7 w _ _ hz hw a0 b0 a1 b1 a2 b2 a3 b3 d4
  have b4 : s4 ≤ 4294967295 := by omega
  by_cases c5 : s5 < 0
  · exact of_lo5 s0 s1 s2 s3 s4 s5 s6 s7 w _ _ hz hw a0 b0 a1 b1 a2 b2 a3 b3 a4 b4 c5
  have a5 : 0 ≤ s5 := by omega
  by_cases d5 : 4294967295 < s5
  · exact of_hi5 s0 s1 s2 s3 s4 s5 s6 s7 w _ _ hz hw a0 b0 a1 b1 a2 b2 a3 b3 a4 b4 d5
  have b5 : s5 ≤ 4294967295 := by omega
  by_cases c6 : s6 < 0
  · exact of_lo6 s0 s1 s2 s3 s4 s5 s6 s7 w _ _ hz hw a0 b0 a1 b1 a2 b2 a3 b3 a4 b4 a5 b5 c6
  have a6 : 0 ≤ s6 := by omega
  by_cases d6 : 4294967295 < s6
  · exact of_hi6 s0 s1 s2 s3 s4 s5 s6 s7 w _ _ hz hw a0 b0 a1 b1 a2 b2 a3 b3 a4 b4 a5 b5 d6
  have b6 : s6 ≤ 4294967295 := by omega
  by_cases c7 : s7 < 0
  · exact of_lo7 s0 s1 s2 s3 s4 s5 s6 s7 w _ _ hz hw a0 b0 a1 b1 a2 b2 a3 b3 a4 b4 a5 b5 a6 b6 c7
  have a7 : 0 ≤ s7 := by omega
  by_cases d7 : 4294967295 < s7
  · exact of_hi7 s0 s1 s2 s3 s4 s5 s6 s7 w _ _ hz hw a0 b0 a1 b1 a2 b2 a3 b3 a4 b4 a5 b5 a6 b6 d7
  have b7 : s7 ≤ 4294967295 := by omega
  exact absurd ⟨⟨a0, b0⟩, ⟨a1, b1⟩, ⟨a2, b2⟩, ⟨a3, b3⟩, ⟨a4, b4⟩, ⟨a5, b5⟩, ⟨a6, b6⟩, ⟨a7, b7⟩⟩ hbad
theorem first_any (w : World) : Calls Tryd.prog 33 #[] w fun e w' => e = .returned (.agg #[.int .i64 1779033703, .int .i64 3144134277, .int .i64 1013904242, .int .i64 2773480762, .int .i64 1359893119, .int .i64 2600822924, .int .i64 528734635, .int .i64 1541459225]) ∧ Below w.heap.size w w' := by
  go_enter Tryd.func33, Tryd.ntmps33
  go_wp2
  exact bodyPost_ret (v := .agg #[.int .i64 1779033703, .int .i64 3144134277, .int .i64 1013904242, .int .i64 2773480762, .int .i64 1359893119, .int .i64 2600822924, .int .i64 528734635, .int .i64 1541459225]) (by simp [results, Tryd.results33, go_sem]) rfl ⟨rfl, (Below.refl _ _).alloc (Nat.le_refl _) _⟩
set_option maxRecDepth 100000 in
theorem schedule_bad {B : Nat} {aw ab : Addr} {w : World} (h : Glob B aw ab w) (s : ByteArray) (hs : s.size ≠ 64) :
    Calls Tryd.prog 25 #[.string s] w fun e w' => e = .returned (.tuple #[.slice none 0 0, .int .i64 10]) ∧ w = w' := by
  have H := Lib.hid h
  have hcb := Lib.hid (checkBlock_bad h s hs)
  clear h hs
  go_enter Tryd.func25, Tryd.ntmps25
  go_wp2_with fail
  refine hcb.out.mono ?_
  rintro e w' ⟨rfl, rfl⟩
  go_wp2_with fail
  refine (told_block H.out).mono ?_
  rintro e w' ⟨rfl, rfl⟩
  go_wp2_with fail
  go_ret2
  exact ⟨rfl, rfl⟩
set_option maxRecDepth 100000 in
set_option maxHeartbeats 1000000 in
theorem compress_word (s0 s1 s2 s3 s4 s5 s6 s7 : Int) (hbad : ¬ Words8 s0 s1 s2 s3 s4 s5 s6 s7) {B : Nat} {aw ab : Addr} {w : World} (h : Glob B aw ab w) (blk : ByteArray) :
    Calls Tryd.prog 29 #[.agg #[.int .i64 s0, .int .i64 s1, .int .i64 s2, .int .i64 s3, .int .i64 s4, .int .i64 s5, .int .i64 s6, .int .i64 s7], .string blk] w fun e w' => e = .returned (.tuple #[.agg #[.int .i64 0, .int .i64 0, .int .i64 0, .int .i64 0, .int .i64 0, .int .i64 0, .int .i64 0, .int .i64 0], .int .i64 11]) ∧ Below w.heap.size w w' := by
  have H := Lib.hid h
  have Hb := Lib.hid hbad
  have hof := Lib.hid (fun W (hW : Below w.heap.size w W) => of_bad s0 s1 s2 s3 s4 s5 s6 s7 Hb.out (h.below (hW.mono h.size)))
  clear h hbad
  go_enter Tryd.func29, Tryd.ntmps29
  go_wp2_with fail
  refine (hof.out _ (by exact ((Below.refl _ _).alloc (Nat.le_refl _) _).alloc (by simp) _)).mono ?_
  rintro e w1 ⟨rfl, hb1⟩
  simp only [World.size_alloc] at hb1
  have z1 : w.heap.size + 1 < w1.heap.size := by have := hb1.size; simp at this; omega
  have hrc : w1.heap[w.heap.size + 1]? = some (.cells #[.int .i64 0, .int .i64 0, .int .i64 0, .int .i64 0, .int .i64 0, .int .i64 0, .int .i64 0, .int .i64 0] 23 (0, 0)) := (hb1.block _ (by omega)).trans (alloc_heap_at _ _ _ (by simp))
  have hw1 : Below w.heap.size w w1 := (((Below.refl _ w).alloc (Nat.le_refl _) _).alloc (by simp) _).trans (hb1.mono (by omega))
  have y0 : w1.cell? ⟨w.heap.size + 1, 0, none⟩ = some (.int .i64 0) := cell_of hrc 0
  have f0 : w1.frozen? ⟨w.heap.size + 1, 0, none⟩ = false := frozen_of hrc 0
  have y1 : w1.cell? ⟨w.heap.size + 1, 1, none⟩ = some (.int .i64 0) := cell_of hrc 1
  have f1 : w1.frozen? ⟨w.heap.size + 1, 1, none⟩ = false := frozen_of hrc 1
  have y2 : w1.cell? ⟨w.heap.size + 1, 2, none⟩ = some (.int .i64 0) := cell_of hrc 2
  have f2 : w1.frozen? ⟨w.heap.size + 1, 2, none⟩ = false := frozen_of hrc 2
  have y3 : w1.cell? ⟨w.heap.size + 1, 3, none⟩ = some (.int .i64 0) := cell_of hrc 3
  have f3 : w1.frozen? ⟨w.heap.size + 1, 3, none⟩ = false := frozen_of hrc 3
  have y4 : w1.cell? ⟨w.heap.size + 1, 4, none⟩ = some (.int .i64 0) := cell_of hrc 4
  have f4 : w1.frozen? ⟨w.heap.size + 1, 4, none⟩ = false := frozen_of hrc 4
  have y5 : w1.cell? ⟨w.heap.size + 1, 5, none⟩ = some (.int .i64 0) := cell_of hrc 5
  have f5 : w1.frozen? ⟨w.heap.size + 1, 5, none⟩ = false := frozen_of hrc 5
  have y6 : w1.cell? ⟨w.heap.size + 1, 6, none⟩ = some (.int .i64 0) := cell_of hrc 6
  have f6 : w1.frozen? ⟨w.heap.size + 1, 6, none⟩ = false := frozen_of hrc 6
  have y7 : w1.cell? ⟨w.heap.size + 1, 7, none⟩ = some (.int .i64 0) := cell_of hrc 7
  have f7 : w1.frozen? ⟨w.heap.size + 1, 7, none⟩ = false := frozen_of hrc 7
  have HRC := Lib.hid hrc
  clear hrc hb1
  go_wp2_with fail
  refine (told_word (H.out.below ((hw1.mono H.out.size).alloc (by have := H.out.size; omega) _))).mono ?_
  rintro e w' ⟨rfl, rfl⟩
  go_wp2_with fail
  have hX := store8 w1 (w.heap.size + 1) 23 _ _ _ _ _ _ _ _ (.int .i64 0) (.int .i64 0) (.int .i64 0) (.int .i64 0) (.int .i64 0) (.int .i64 0) (.int .i64 0) (.int .i64 0) HRC.out
  have hXb := below8 w1 (w.heap.size + 1) (.int .i64 0) (.int .i64 0) (.int .i64 0) (.int .i64 0) (.int .i64 0) (.int .i64 0) (.int .i64 0) (.int .i64 0) hw1 (by omega)
  exact bodyPost_ret (results29 _ _ (w.heap.size + 1) _ _ _ _ _ _ _ _ _ rfl rfl (alloc_heap_old _ hX)) rfl ⟨rfl, hXb.alloc hXb.size _⟩

set_option maxRecDepth 100000 in
set_option maxHeartbeats 1000000 in
theorem compress_block (s : Sha.St) (hs : s.ok) {B : Nat} {aw ab : Addr} {w : World} (h : Glob B aw ab w) (blk : ByteArray) (hb : blk.size ≠ 64) :
    Calls Tryd.prog 29 #[.agg #[.int .i64 s.a, .int .i64 s.b, .int .i64 s.c, .int .i64 s.d, .int .i64 s.e, .int .i64 s.f, .int .i64 s.g, .int .i64 s.h], .string blk] w fun e w' => e = .returned (.tuple #[.agg #[.int .i64 0, .int .i64 0, .int .i64 0, .int .i64 0, .int .i64 0, .int .i64 0, .int .i64 0, .int .i64 0], .int .i64 10]) ∧ Below w.heap.size w w' := by
  have H := Lib.hid h
  have Hs := Lib.hid hs
  have Hb := Lib.hid hb
  clear h hs hb
  go_enter Tryd.func29, Tryd.ntmps29
  go_wp2_with fail
  refine (of_any s Hs.out _).mono ?_
  rintro e w1 ⟨rfl, hb1⟩
  simp only [World.size_alloc] at hb1
  have z1 : w.heap.size + 1 < w1.heap.size := by have := hb1.size; simp at this; omega
  have hrc : w1.heap[w.heap.size + 1]? = some (.cells #[.int .i64 0, .int .i64 0, .int .i64 0, .int .i64 0, .int .i64 0, .int .i64 0, .int .i64 0, .int .i64 0] 23 (0, 0)) := (hb1.block _ (by omega)).trans (alloc_heap_at _ _ _ (by simp))
  have hw1 : Below w.heap.size w w1 := (((Below.refl _ w).alloc (Nat.le_refl _) _).alloc (by simp) _).trans (hb1.mono (by omega))
  have y0 : w1.cell? ⟨w.heap.size + 1, 0, none⟩ = some (.int .i64 0) := cell_of hrc 0
  have f0 : w1.frozen? ⟨w.heap.size + 1, 0, none⟩ = false := frozen_of hrc 0
  have y1 : w1.cell? ⟨w.heap.size + 1, 1, none⟩ = some (.int .i64 0) := cell_of hrc 1
  have f1 : w1.frozen? ⟨w.heap.size + 1, 1, none⟩ = false := frozen_of hrc 1
  have y2 : w1.cell? ⟨w.heap.size + 1, 2, none⟩ = some (.int .i64 0) := cell_of hrc 2
  have f2 : w1.frozen? ⟨w.heap.size + 1, 2, none⟩ = false := frozen_of hrc 2
  have y3 : w1.cell? ⟨w.heap.size + 1, 3, none⟩ = some (.int .i64 0) := cell_of hrc 3
  have f3 : w1.frozen? ⟨w.heap.size + 1, 3, none⟩ = false := frozen_of hrc 3
  have y4 : w1.cell? ⟨w.heap.size + 1, 4, none⟩ = some (.int .i64 0) := cell_of hrc 4
  have f4 : w1.frozen? ⟨w.heap.size + 1, 4, none⟩ = false := frozen_of hrc 4
  have y5 : w1.cell? ⟨w.heap.size + 1, 5, none⟩ = some (.int .i64 0) := cell_of hrc 5
  have f5 : w1.frozen? ⟨w.heap.size + 1, 5, none⟩ = false := frozen_of hrc 5
  have y6 : w1.cell? ⟨w.heap.size + 1, 6, none⟩ = some (.int .i64 0) := cell_of hrc 6
  have f6 : w1.frozen? ⟨w.heap.size + 1, 6, none⟩ = false := frozen_of hrc 6
  have y7 : w1.cell? ⟨w.heap.size + 1, 7, none⟩ = some (.int .i64 0) := cell_of hrc 7
  have f7 : w1.frozen? ⟨w.heap.size + 1, 7, none⟩ = false := frozen_of hrc 7
  have HRC := Lib.hid hrc
  clear hrc hb1
  have HG := H.out.below ((hw1.mono H.out.size).alloc (by have := H.out.size; omega) (.cells #[.int .u32 s.a, .int .u32 s.b, .int .u32 s.c, .int .u32 s.d, .int .u32 s.e, .int .u32 s.f, .int .u32 s.g, .int .u32 s.h] 78))
  have HGh := Lib.hid HG
  clear HG
  go_wp2_with fail
  refine (checkBlock_bad HGh.out blk Hb.out).mono ?_
  rintro e w' ⟨rfl, rfl⟩
  go_wp2_with fail
  refine (told_block HGh.out).mono ?_
  rintro e w' ⟨rfl, rfl⟩
  go_wp2_with fail
  have hX := store8 w1 (w.heap.size + 1) 23 _ _ _ _ _ _ _ _ (.int .i64 0) (.int .i64 0) (.int .i64 0) (.int .i64 0) (.int .i64 0) (.int .i64 0) (.int .i64 0) (.int .i64 0) HRC.out
  have hXb := below8 w1 (w.heap.size + 1) (.int .i64 0) (.int .i64 0) (.int .i64 0) (.int .i64 0) (.int .i64 0) (.int .i64 0) (.int .i64 0) (.int .i64 0) hw1 (by omega)
  exact bodyPost_ret (results29 _ _ (w.heap.size + 1) _ _ _ _ _ _ _ _ _ rfl rfl (alloc_heap_old _ hX)) rfl ⟨rfl, hXb.alloc hXb.size _⟩

theorem results27 (tmps : Array Value) (w : World) (b : Nat) (v0 v1 v2 v3 v4 v5 v6 v7 e : Value) (h4 : tmps.getD 6 undef = .pointer (some ⟨b, 0, none⟩)) (h5 : tmps.getD 7 undef = e) (hb : w.heap[b]? = some (.cells #[v0, v1, v2, v3, v4, v5, v6, v7] 23 (0, 0))) :
    (results Tryd.f27 tmps).run Tryd.prog w = .ok (.tuple #[.agg #[v0, v1, v2, v3, v4, v5, v6, v7], e]) w := by
  have c0 : w.cell? ⟨b, 0, none⟩ = some v0 := cell_of hb 0
  have c1 : w.cell? ⟨b, 1, none⟩ = some v1 := cell_of hb 1
  have c2 : w.cell? ⟨b, 2, none⟩ = some v2 := cell_of hb 2
  have c3 : w.cell? ⟨b, 3, none⟩ = some v3 := cell_of hb 3
  have c4 : w.cell? ⟨b, 4, none⟩ = some v4 := cell_of hb 4
  have c5 : w.cell? ⟨b, 5, none⟩ = some v5 := cell_of hb 5
  have c6 : w.cell? ⟨b, 6, none⟩ = some v6 := cell_of hb 6
  have c7 : w.cell? ⟨b, 7, none⟩ = some v7 := cell_of hb 7
  simp only [Array.getD_eq_getD_getElem?] at h4 h5
  simp [results, Tryd.results27, go_sem, h4, h5, c0, c1, c2, c3, c4, c5, c6, c7]

set_option maxRecDepth 100000 in
set_option maxHeartbeats 1000000 in
theorem round_word (s0 s1 s2 s3 s4 s5 s6 s7 i x : Int) (hbad : ¬ Words8 s0 s1 s2 s3 s4 s5 s6 s7) {B : Nat} {aw ab : Addr} {w : World} (h : Glob B aw ab w) :
    Calls Tryd.prog 27 #[.agg #[.int .i64 s0, .int .i64 s1, .int .i64 s2, .int .i64 s3, .int .i64 s4, .int .i64 s5, .int .i64 s6, .int .i64 s7], .int .i64 i, .int .i64 x] w fun e w' => e = .returned (.tuple #[.agg #[.int .i64 0, .int .i64 0, .int .i64 0, .int .i64 0, .int .i64 0, .int .i64 0, .int .i64 0, .int .i64 0], .int .i64 11]) ∧ Below w.heap.size w w' := by
  have H := Lib.hid h
  have Hb := Lib.hid hbad
  have hof := Lib.hid (fun W (hW : Below w.heap.size w W) => of_bad s0 s1 s2 s3 s4 s5 s6 s7 Hb.out (h.below (hW.mono h.size)))
  clear h hbad
  go_enter Tryd.func27, Tryd.ntmps27
  go_wp2_with fail
  refine (hof.out _ (by exact ((Below.refl _ _).alloc (Nat.le_refl _) _).alloc (by simp) _)).mono ?_
  rintro e w1 ⟨rfl, hb1⟩
  simp only [World.size_alloc] at hb1
  have z1 : w.heap.size + 1 < w1.heap.size := by have := hb1.size; simp at this; omega
  have hrc : w1.heap[w.heap.size + 1]? = some (.cells #[.int .i64 0, .int .i64 0, .int .i64 0, .int .i64 0, .int .i64 0, .int .i64 0, .int .i64 0, .int .i64 0] 23 (0, 0)) := (hb1.block _ (by omega)).trans (alloc_heap_at _ _ _ (by simp))
  have hw1 : Below w.heap.size w w1 := (((Below.refl _ w).alloc (Nat.le_refl _) _).alloc (by simp) _).trans (hb1.mono (by omega))
  have y0 : w1.cell? ⟨w.heap.size + 1, 0, none⟩ = some (.int .i64 0) := cell_of hrc 0
  have f0 : w1.frozen? ⟨w.heap.size + 1, 0, none⟩ = false := frozen_of hrc 0
  have y1 : w1.cell? ⟨w.heap.size + 1, 1, none⟩ = some (.int .i64 0) := cell_of hrc 1
  have f1 : w1.frozen? ⟨w.heap.size + 1, 1, none⟩ = false := frozen_of hrc 1
  have y2 : w1.cell? ⟨w.heap.size + 1, 2, none⟩ = some (.int .i64 0) := cell_of hrc 2
  have f2 : w1.frozen? ⟨w.heap.size + 1, 2, none⟩ = false := frozen_of hrc 2
  have y3 : w1.cell? ⟨w.heap.size + 1, 3, none⟩ = some (.int .i64 0) := cell_of hrc 3
  have f3 : w1.frozen? ⟨w.heap.size + 1, 3, none⟩ = false := frozen_of hrc 3
  have y4 : w1.cell? ⟨w.heap.size + 1, 4, none⟩ = some (.int .i64 0) := cell_of hrc 4
  have f4 : w1.frozen? ⟨w.heap.size + 1, 4, none⟩ = false := frozen_of hrc 4
  have y5 : w1.cell? ⟨w.heap.size + 1, 5, none⟩ = some (.int .i64 0) := cell_of hrc 5
  have f5 : w1.frozen? ⟨w.heap.size + 1, 5, none⟩ = false := frozen_of hrc 5
  have y6 : w1.cell? ⟨w.heap.size + 1, 6, none⟩ = some (.int .i64 0) := cell_of hrc 6
  have f6 : w1.frozen? ⟨w.heap.size + 1, 6, none⟩ = false := frozen_of hrc 6
  have y7 : w1.cell? ⟨w.heap.size + 1, 7, none⟩ = some (.int .i64 0) := cell_of hrc 7
  have f7 : w1.frozen? ⟨w.heap.size + 1, 7, none⟩ = false := frozen_of hrc 7
  have HRC := Lib.hid hrc
  clear hrc hb1
  go_wp2_with fail
  refine (told_word (H.out.below ((hw1.mono H.out.size).alloc (by have := H.out.size; omega) _))).mono ?_
  rintro e w' ⟨rfl, rfl⟩
  go_wp2_with fail
  have hX := store8 w1 (w.heap.size + 1) 23 _ _ _ _ _ _ _ _ (.int .i64 0) (.int .i64 0) (.int .i64 0) (.int .i64 0) (.int .i64 0) (.int .i64 0) (.int .i64 0) (.int .i64 0) HRC.out
  have hXb := below8 w1 (w.heap.size + 1) (.int .i64 0) (.int .i64 0) (.int .i64 0) (.int .i64 0) (.int .i64 0) (.int .i64 0) (.int .i64 0) (.int .i64 0) hw1 (by omega)
  exact bodyPost_ret (results27 _ _ (w.heap.size + 1) _ _ _ _ _ _ _ _ _ rfl rfl (alloc_heap_old _ hX)) rfl ⟨rfl, hXb.alloc hXb.size _⟩

end Go.Proofs.YtfafidholldjlaaDoor
/- Round, on a state of words. -/
set_option linter.unusedVariables false
set_option linter.unusedSimpArgs false
namespace Go.Proofs.YtfafidholldjlaaDoor
open Go.RowKit
set_option maxRecDepth 100000 in
set_option maxHeartbeats 1000000 in
theorem round_num_a (s : Sha.St) (hs : s.ok) (i x : Int) (c1 : i < 0) {B : Nat} {aw ab : Addr} {w : World} (h : Glob B aw ab w) :
    Calls Tryd.prog 27 #[.agg #[.int .i64 s.a, .int .i64 s.b, .int .i64 s.c, .int .i64 s.d, .int .i64 s.e, .int .i64 s.f, .int .i64 s.g, .int .i64 s.h], .int .i64 i, .int .i64 x] w fun e w' => e = .returned (.tuple #[.agg #[.int .i64 0, .int .i64 0, .int .i64 0, .int .i64 0, .int .i64 0, .int .i64 0, .int .i64 0, .int .i64 0], .int .i64 11]) ∧ Below w.heap.size w w' := by
  have H := Lib.hid h
  have Hs := Lib.hid hs
  clear h hs
  go_enter Tryd.func27, Tryd.ntmps27
  go_wp2_with fail
  refine (of_any s Hs.out _).mono ?_
  rintro e w1 ⟨rfl, hb1⟩
  simp only [World.size_alloc] at hb1
  have z1 : w.heap.size + 1 < w1.heap.size := by have := hb1.size; simp at this; omega
  have hrc : w1.heap[w.heap.size + 1]? = some (.cells #[.int .i64 0, .int .i64 0, .int .i64 0, .int .i64 0, .int .i64 0, .int .i64 0, .int .i64 0, .int .i64 0] 23 (0, 0)) := (hb1.block _ (by omega)).trans (alloc_heap_at _ _ _ (by simp))
  have hw1 : Below w.heap.size w w1 := (((Below.refl _ w).alloc (Nat.le_refl _) _).alloc (by simp) _).trans (hb1.mono (by omega))
  have y0 : w1.cell? ⟨w.heap.size + 1, 0, none⟩ = some (.int .i64 0) := cell_of hrc 0
  have f0 : w1.frozen? ⟨w.heap.size + 1, 0, none⟩ = false := frozen_of hrc 0
  have y1 : w1.cell? ⟨w.heap.size + 1, 1, none⟩ = some (.int .i64 0) := cell_of hrc 1
  have f1 : w1.frozen? ⟨w.heap.size + 1, 1, none⟩ = false := frozen_of hrc 1
  have y2 : w1.cell? ⟨w.heap.size + 1, 2, none⟩ = some (.int .i64 0) := cell_of hrc 2
  have f2 : w1.frozen? ⟨w.heap.size + 1, 2, none⟩ = false := frozen_of hrc 2
  have y3 : w1.cell? ⟨w.heap.size + 1, 3, none⟩ = some (.int .i64 0) := cell_of hrc 3
  have f3 : w1.frozen? ⟨w.heap.size + 1, 3, none⟩ = false := frozen_of hrc 3
  have y4 : w1.cell? ⟨w.heap.size + 1, 4, none⟩ = some (.int .i64 0) := cell_of hrc 4
  have f4 : w1.frozen? ⟨w.heap.size + 1, 4, none⟩ = false := frozen_of hrc 4
  have y5 : w1.cell? ⟨w.heap.size + 1, 5, none⟩ = some (.int .i64 0) := cell_of hrc 5
  have f5 : w1.frozen? ⟨w.heap.size + 1, 5, none⟩ = false := frozen_of hrc 5
  have y6 : w1.cell? ⟨w.heap.size + 1, 6, none⟩ = some (.int .i64 0) := cell_of hrc 6
  have f6 : w1.frozen? ⟨w.heap.size + 1, 6, none⟩ = false := frozen_of hrc 6
  have y7 : w1.cell? ⟨w.heap.size + 1, 7, none⟩ = some (.int .i64 0) := cell_of hrc 7
  have f7 : w1.frozen? ⟨w.heap.size + 1, 7, none⟩ = false := frozen_of hrc 7
  have HRC := Lib.hid hrc
  clear hrc hb1
  have hg := (H.out.below (hw1.mono H.out.size)).word
  have h0 : 0 < w1.heap.size := by omega
  go_wp2_with fail
  refine (told_word (H.out.below ((hw1.mono H.out.size).alloc (by have := H.out.size; omega) _))).mono ?_
  rintro e w' ⟨rfl, rfl⟩
  go_wp2_with fail
  have hX := store8 w1 (w.heap.size + 1) 23 _ _ _ _ _ _ _ _ (.int .i64 0) (.int .i64 0) (.int .i64 0) (.int .i64 0) (.int .i64 0) (.int .i64 0) (.int .i64 0) (.int .i64 0) HRC.out
  have hXb := below8 w1 (w.heap.size + 1) (.int .i64 0) (.int .i64 0) (.int .i64 0) (.int .i64 0) (.int .i64 0) (.int .i64 0) (.int .i64 0) (.int .i64 0) hw1 (by omega)
  exact bodyPost_ret (results27 _ _ (w.heap.size + 1) _ _ _ _ _ _ _ _ _ rfl rfl (alloc_heap_old _ hX)) rfl ⟨rfl, hXb.alloc hXb.size _⟩
set_option maxRecDepth 100000 in
set_option maxHeartbeats 1000000 in
theorem round_num_b (s : Sha.St) (hs : s.ok) (i x : Int) (c0 : 0 ≤ i) (c1 : 64 ≤ i) {B : Nat} {aw ab : Addr} {w : World} (h : Glob B aw ab w) :
    Calls Tryd.prog 27 #[.agg #[.int .i64 s.a, .int .i64 s.b, .int .i64 s.c, .int .i64 s.d, .int .i64 s.e, .int .i64 s.f, .int .i64 s.g, .int .i64 s.h], .int .i64 i, .int .i64 x] w fun e w' => e = .returned (.tuple #[.agg #[.int .i64 0, .int .i64 0, .int .i64 0, .int .i64 0, .int .i64 0, .int .i64 0, .int .i64 0, .int .i64 0], .int .i64 11]) ∧ Below w.heap.size w w' := by
  have H := Lib.hid h
  have Hs := Lib.hid hs
  clear h hs
  go_enter Tryd.func27, Tryd.ntmps27
  go_wp2_with fail
  refine (of_any s Hs.out _).mono ?_
  rintro e w1 ⟨rfl, hb1⟩
  simp only [World.size_alloc] at hb1
  have z1 : w.heap.size + 1 < w1.heap.size := by have := hb1.size; simp at this; omega
  have hrc : w1.heap[w.heap.size + 1]? = some (.cells #[.int .i64 0, .int .i64 0, .int .i64 0, .int .i64 0, .int .i64 0, .int .i64 0, .int .i64 0, .int .i64 0] 23 (0, 0)) := (hb1.block _ (by omega)).trans (alloc_heap_at _ _ _ (by simp))
  have hw1 : Below w.heap.size w w1 := (((Below.refl _ w).alloc (Nat.le_refl _) _).alloc (by simp) _).trans (hb1.mono (by omega))
  have y0 : w1.cell? ⟨w.heap.size + 1, 0, none⟩ = some (.int .i64 0) := cell_of hrc 0
  have f0 : w1.frozen? ⟨w.heap.size + 1, 0, none⟩ = false := frozen_of hrc 0
  have y1 : w1.cell? ⟨w.heap.size + 1, 1, none⟩ = some (.int .i64 0) := cell_of hrc 1
  have f1 : w1.frozen? ⟨w.heap.size + 1, 1, none⟩ = false := frozen_of hrc 1
  have y2 : w1.cell? ⟨w.heap.size + 1, 2, none⟩ = some (.int .i64 0) := cell_of hrc 2
  have f2 : w1.frozen? ⟨w.heap.size + 1, 2, none⟩ = false := frozen_of hrc 2
  have y3 : w1.cell? ⟨w.heap.size + 1, 3, none⟩ = some (.int .i64 0) := cell_of hrc 3
  have f3 : w1.frozen? ⟨w.heap.size + 1, 3, none⟩ = false := frozen_of hrc 3
  have y4 : w1.cell? ⟨w.heap.size + 1, 4, none⟩ = some (.int .i64 0) := cell_of hrc 4
  have f4 : w1.frozen? ⟨w.heap.size + 1, 4, none⟩ = false := frozen_of hrc 4
  have y5 : w1.cell? ⟨w.heap.size + 1, 5, none⟩ = some (.int .i64 0) := cell_of hrc 5
  have f5 : w1.frozen? ⟨w.heap.size + 1, 5, none⟩ = false := frozen_of hrc 5
  have y6 : w1.cell? ⟨w.heap.size + 1, 6, none⟩ = some (.int .i64 0) := cell_of hrc 6
  have f6 : w1.frozen? ⟨w.heap.size + 1, 6, none⟩ = false := frozen_of hrc 6
  have y7 : w1.cell? ⟨w.heap.size + 1, 7, none⟩ = some (.int .i64 0) := cell_of hrc 7
  have f7 : w1.frozen? ⟨w.heap.size + 1, 7, none⟩ = false := frozen_of hrc 7
  have HRC := Lib.hid hrc
  clear hrc hb1
  have hg := (H.out.below (hw1.mono H.out.size)).word
  have h0 : 0 < w1.heap.size := by omega
  go_wp2_with fail
  refine (told_word (H.out.below ((hw1.mono H.out.size).alloc (by have := H.out.size; omega) _))).mono ?_
  rintro e w' ⟨rfl, rfl⟩
  go_wp2_with fail
  have hX := store8 w1 (w.heap.size + 1) 23 _ _ _ _ _ _ _ _ (.int .i64 0) (.int .i64 0) (.int .i64 0) (.int .i64 0) (.int .i64 0) (.int .i64 0) (.int .i64 0) (.int .i64 0) HRC.out
  have hXb := below8 w1 (w.heap.size + 1) (.int .i64 0) (.int .i64 0) (.int .i64 0) (.int .i64 0) (.int .i64 0) (.int .i64 0) (.int .i64 0) (.int .i64 0) hw1 (by omega)
  exact bodyPost_ret (results27 _ _ (w.heap.size + 1) _ _ _ _ _ _ _ _ _ rfl rfl (alloc_heap_old _ hX)) rfl ⟨rfl, hXb.alloc hXb.size _⟩
set_option maxRecDepth 100000 in
set_option maxHeartbeats 1000000 in
theorem round_num_c (s : Sha.St) (hs : s.ok) (i x : Int) (c0 : 0 ≤ i) (c1 : i < 64) (c2 : x < 0) {B : Nat} {aw ab : Addr} {w : World} (h : Glob B aw ab w) :
    Calls Tryd.prog 27 #[.agg #[.int .i64 s.a, .int .i64 s.b, .int .i64 s.c, .int .i64 s.d, .int .i64 s.e, .int .i64 s.f, .int .i64 s.g, .int .i64 s.h], .int .i64 i, .int .i64 x] w fun e w' => e = .returned (.tuple #[.agg #[.int .i64 0, .int .i64 0, .int .i64 0, .int .i64 0, .int .i64 0, .int .i64 0, .int .i64 0, .int .i64 0], .int .i64 11]) ∧ Below w.heap.size w w' := by
  have H := Lib.hid h
  have Hs := Lib.hid hs
  clear h hs
  go_enter Tryd.func27, Tryd.ntmps27
  go_wp2_with fail
  refine (of_any s Hs.out _).mono ?_
  rintro e w1 ⟨rfl, hb1⟩
  simp only [World.size_alloc] at hb1
  have z1 : w.heap.size + 1 < w1.heap.size := by have := hb1.size; simp at this; omega
  have hrc : w1.heap[w.heap.size + 1]? = some (.cells #[.int .i64 0, .int .i64 0, .int .i64 0, .int .i64 0, .int .i64 0, .int .i64 0, .int .i64 0, .int .i64 0] 23 (0, 0)) := (hb1.block _ (by omega)).trans (alloc_heap_at _ _ _ (by simp))
  have hw1 : Below w.heap.size w w1 := (((Below.refl _ w).alloc (Nat.le_refl _) _).alloc (by simp) _).trans (hb1.mono (by omega))
  have y0 : w1.cell? ⟨w.heap.size + 1, 0, none⟩ = some (.int .i64 0) := cell_of hrc 0
  have f0 : w1.frozen? ⟨w.heap.size + 1, 0, none⟩ = false := frozen_of hrc 0
  have y1 : w1.cell? ⟨w.heap.size + 1, 1, none⟩ = some (.int .i64 0) := cell_of hrc 1
  have f1 : w1.frozen? ⟨w.heap.size + 1, 1, none⟩ = false := frozen_of hrc 1
  have y2 : w1.cell? ⟨w.heap.size + 1, 2, none⟩ = some (.int .i64 0) := cell_of hrc 2
  have f2 : w1.frozen? ⟨w.heap.size + 1, 2, none⟩ = false := frozen_of hrc 2
  have y3 : w1.cell? ⟨w.heap.size + 1, 3, none⟩ = some (.int .i64 0) := cell_of hrc 3
  have f3 : w1.frozen? ⟨w.heap.size + 1, 3, none⟩ = false := frozen_of hrc 3
  have y4 : w1.cell? ⟨w.heap.size + 1, 4, none⟩ = some (.int .i64 0) := cell_of hrc 4
  have f4 : w1.frozen? ⟨w.heap.size + 1, 4, none⟩ = false := frozen_of hrc 4
  have y5 : w1.cell? ⟨w.heap.size + 1, 5, none⟩ = some (.int .i64 0) := cell_of hrc 5
  have f5 : w1.frozen? ⟨w.heap.size + 1, 5, none⟩ = false := frozen_of hrc 5
  have y6 : w1.cell? ⟨w.heap.size + 1, 6, none⟩ = some (.int .i64 0) := cell_of hrc 6
  have f6 : w1.frozen? ⟨w.heap.size + 1, 6, none⟩ = false := frozen_of hrc 6
  have y7 : w1.cell? ⟨w.heap.size + 1, 7, none⟩ = some (.int .i64 0) := cell_of hrc 7
  have f7 : w1.frozen? ⟨w.heap.size + 1, 7, none⟩ = false := frozen_of hrc 7
  have HRC := Lib.hid hrc
  clear hrc hb1
  have hg := (H.out.below (hw1.mono H.out.size)).word
  have h0 : 0 < w1.heap.size := by omega
  go_wp2_with fail
  refine (told_word (H.out.below ((hw1.mono H.out.size).alloc (by have := H.out.size; omega) _))).mono ?_
  rintro e w' ⟨rfl, rfl⟩
  go_wp2_with fail
  have hX := store8 w1 (w.heap.size + 1) 23 _ _ _ _ _ _ _ _ (.int .i64 0) (.int .i64 0) (.int .i64 0) (.int .i64 0) (.int .i64 0) (.int .i64 0) (.int .i64 0) (.int .i64 0) HRC.out
  have hXb := below8 w1 (w.heap.size + 1) (.int .i64 0) (.int .i64 0) (.int .i64 0) (.int .i64 0) (.int .i64 0) (.int .i64 0) (.int .i64 0) (.int .i64 0) hw1 (by omega)
  exact bodyPost_ret (results27 _ _ (w.heap.size + 1) _ _ _ _ _ _ _ _ _ rfl rfl (alloc_heap_old _ hX)) rfl ⟨rfl, hXb.alloc hXb.size _⟩
set_option maxRecDepth 100000 in
set_option maxHeartbeats 1000000 in
theorem round_num_d (s : Sha.St) (hs : s.ok) (i x : Int) (c0 : 0 ≤ i) (c1 : i < 64) (c2 : 0 ≤ x) (c3 : 4294967295 < x) {B : Nat} {aw ab : Addr} {w : World} (h : Glob B aw ab w) :
    Calls Tryd.prog 27 #[.agg #[.int .i64 s.a, .int .i64 s.b, .int .i64 s.c, .int .i64 s.d, .int .i64 s.e, .int .i64 s.f, .int .i64 s.g, .int .i64 s.h], .int .i64 i, .int .i64 x] w fun e w' => e = .returned (.tuple #[.agg #[.int .i64 0, .int .i64 0, .int .i64 0, .int .i64 0, .int .i64 0, .int .i64 0, .int .i64 0, .int .i64 0], .int .i64 11]) ∧ Below w.heap.size w w' := by
  have H := Lib.hid h
  have Hs := Lib.hid hs
  clear h hs
  go_enter Tryd.func27, Tryd.ntmps27
  go_wp2_with fail
  refine (of_any s Hs.out _).mono ?_
  rintro e w1 ⟨rfl, hb1⟩
  simp only [World.size_alloc] at hb1
  have z1 : w.heap.size + 1 < w1.heap.size := by have := hb1.size; simp at this; omega
  have hrc : w1.heap[w.heap.size + 1]? = some (.cells #[.int .i64 0, .int .i64 0, .int .i64 0, .int .i64 0, .int .i64 0, .int .i64 0, .int .i64 0, .int .i64 0] 23 (0, 0)) := (hb1.block _ (by omega)).trans (alloc_heap_at _ _ _ (by simp))
  have hw1 : Below w.heap.size w w1 := (((Below.refl _ w).alloc (Nat.le_refl _) _).alloc (by simp) _).trans (hb1.mono (by omega))
  have y0 : w1.cell? ⟨w.heap.size + 1, 0, none⟩ = some (.int .i64 0) := cell_of hrc 0
  have f0 : w1.frozen? ⟨w.heap.size + 1, 0, none⟩ = false := frozen_of hrc 0
  have y1 : w1.cell? ⟨w.heap.size + 1, 1, none⟩ = some (.int .i64 0) := cell_of hrc 1
  have f1 : w1.frozen? ⟨w.heap.size + 1, 1, none⟩ = false := frozen_of hrc 1
  have y2 : w1.cell? ⟨w.heap.size + 1, 2, none⟩ = some (.int .i64 0) := cell_of hrc 2
  have f2 : w1.frozen? ⟨w.heap.size + 1, 2, none⟩ = false := frozen_of hrc 2
  have y3 : w1.cell? ⟨w.heap.size + 1, 3, none⟩ = some (.int .i64 0) := cell_of hrc 3
  have f3 : w1.frozen? ⟨w.heap.size + 1, 3, none⟩ = false := frozen_of hrc 3
  have y4 : w1.cell? ⟨w.heap.size + 1, 4, none⟩ = some (.int .i64 0) := cell_of hrc 4
  have f4 : w1.frozen? ⟨w.heap.size + 1, 4, none⟩ = false := frozen_of hrc 4
  have y5 : w1.cell? ⟨w.heap.size + 1, 5, none⟩ = some (.int .i64 0) := cell_of hrc 5
  have f5 : w1.frozen? ⟨w.heap.size + 1, 5, none⟩ = false := frozen_of hrc 5
  have y6 : w1.cell? ⟨w.heap.size + 1, 6, none⟩ = some (.int .i64 0) := cell_of hrc 6
  have f6 : w1.frozen? ⟨w.heap.size + 1, 6, none⟩ = false := frozen_of hrc 6
  have y7 : w1.cell? ⟨w.heap.size + 1, 7, none⟩ = some (.int .i64 0) := cell_of hrc 7
  have f7 : w1.frozen? ⟨w.heap.size + 1, 7, none⟩ = false := frozen_of hrc 7
  have HRC := Lib.hid hrc
  clear hrc hb1
  have hg := (H.out.below (hw1.mono H.out.size)).word
  have h0 : 0 < w1.heap.size := by omega
  go_wp2_with fail
  refine (told_word (H.out.below ((hw1.mono H.out.size).alloc (by have := H.out.size; omega) _))).mono ?_
  rintro e w' ⟨rfl, rfl⟩
  go_wp2_with fail
  have hX := store8 w1 (w.heap.size + 1) 23 _ _ _ _ _ _ _ _ (.int .i64 0) (.int .i64 0) (.int .i64 0) (.int .i64 0) (.int .i64 0) (.int .i64 0) (.int .i64 0) (.int .i64 0) HRC.out
  have hXb := below8 w1 (w.heap.size + 1) (.int .i64 0) (.int .i64 0) (.int .i64 0) (.int .i64 0) (.int .i64 0) (.int .i64 0) (.int .i64 0) (.int .i64 0) hw1 (by omega)
  exact bodyPost_ret (results27 _ _ (w.heap.size + 1) _ _ _ _ _ _ _ _ _ rfl rfl (alloc_heap_old _ hX)) rfl ⟨rfl, hXb.alloc hXb.size _⟩
theorem round_num (s : Sha.St) (hs : s.ok) (i x : Int) (hbad : ¬ (0 ≤ i ∧ i < 64 ∧ 0 ≤ x ∧ x ≤ 4294967295)) {B : Nat} {aw ab : Addr} {w : World} (h : Glob B aw ab w) :
    Calls Tryd.prog 27 #[.agg #[.int .i64 s.a, .int .i64 s.b, .int .i64 s.c, .int .i64 s.d, .int .i64 s.e, .int .i64 s.f, .int .i64 s.g, .int .i64 s.h], .int .i64 i, .int .i64 x] w fun e w' => e = .returned (.tuple #[.agg #[.int .i64 0, .int .i64 0, .int .i64 0, .int .i64 0, .int .i64 0, .int .i64 0, .int .i64 0, .int .i64 0], .int .i64 11]) ∧ Below w.heap.size w w' := by
  by_cases c0 : i < 0
  · exact round_num_a s hs i x c0 h
  by_cases c1 : 64 ≤ i
  · exact round_num_b s hs i x (by omega) c1 h
  by_cases c2 : x < 0
  · exact round_num_c s hs i x (by omega) (by omega) c2 h
  by_cases c3 : 4294967295 < x
  · exact round_num_d s hs i x (by omega) (by omega) (by omega) c3 h
  exact absurd ⟨by omega, by omega, by omega, by omega⟩ hbad
set_option maxRecDepth 100000 in
set_option maxHeartbeats 1000000 in
theorem round_ok (s : Sha.St) (hs : s.ok) (i x : Nat) (hi : i < 64) (hx : x < 4294967296) {B : Nat} {aw ab : Addr} {w : World} (h : Glob B aw ab w) :
    Calls Tryd.prog 27 #[.agg #[.int .i64 s.a, .int .i64 s.b, .int .i64 s.c, .int .i64 s.d, .int .i64 s.e, .int .i64 s.f, .int .i64 s.g, .int .i64 s.h], .int .i64 (i : Int), .int .i64 (x : Int)] w fun e w' => e = .returned (.tuple #[.agg (row64 (s.round (Sha.K.getD i 0) x)), .int .i64 0]) ∧ Below w.heap.size w w' := by
  have H := Lib.hid h
  have Hs := Lib.hid hs
  have i0 : (0 : Int) ≤ (i : Int) := by omega
  have i1 : (i : Int) < 64 := by omega
  have x0 : (0 : Int) ≤ (x : Int) := by omega
  have x1 : (x : Int) ≤ 4294967295 := by omega
  have Hi := Lib.hid hi
  clear h hs hx hi
  go_enter Tryd.func27, Tryd.ntmps27
  go_wp2_with fail
  refine (of_any s Hs.out _).mono ?_
  rintro e w1 ⟨rfl, hb1⟩
  simp only [World.size_alloc] at hb1
  have z1 : w.heap.size + 1 < w1.heap.size := by have := hb1.size; simp at this; omega
  have hrc : w1.heap[w.heap.size + 1]? = some (.cells #[.int .i64 0, .int .i64 0, .int .i64 0, .int .i64 0, .int .i64 0, .int .i64 0, .int .i64 0, .int .i64 0] 23 (0, 0)) := (hb1.block _ (by omega)).trans (alloc_heap_at _ _ _ (by simp))
  have hw1 : Below w.heap.size w w1 := (((Below.refl _ w).alloc (Nat.le_refl _) _).alloc (by simp) _).trans (hb1.mono (by omega))
  have HRC := Lib.hid hrc
  clear hrc hb1
  go_wp2_with fail
  have hg2 := H.out.below (((hw1.mono H.out.size).alloc (by have := H.out.size; omega) (.cells #[.int .u32 s.a, .int .u32 s.b, .int .u32 s.c, .int .u32 s.d, .int .u32 s.e, .int .u32 s.f, .int .u32 s.g, .int .u32 s.h] 78)).alloc (by have := H.out.size; simp; omega) (.cells #[.int .u32 s.a, .int .u32 s.b, .int .u32 s.c, .int .u32 s.d, .int .u32 s.e, .int .u32 s.f, .int .u32 s.g, .int .u32 s.h] 83))
  have hr := round_any (w1.heap.size + 1) 83 s Hs.out i x hg2 (alloc_heap_at _ _ _ (by simp)) Hi.out
  have Hr := Lib.hid hr
  clear hr hg2
  refine Hr.out.mono ?_
  rintro e W3 ⟨rfl, ha3, hf3⟩
  have A3 := Lib.hid ha3
  have F3 := Lib.hid hf3
  clear ha3 hf3
  go_wp2_with fail
  refine (told_any (w1.heap.size + 1) 83 _ (Sha.St.round_ok Hs.out _ _) W3 A3.out).mono ?_
  rintro e W4 ⟨rfl, hf4⟩
  have hfr : Far (· = w1.heap.size + 1) ((w1.alloc (.cells #[.int .u32 s.a, .int .u32 s.b, .int .u32 s.c, .int .u32 s.d, .int .u32 s.e, .int .u32 s.f, .int .u32 s.g, .int .u32 s.h] 78)).alloc (.cells #[.int .u32 s.a, .int .u32 s.b, .int .u32 s.c, .int .u32 s.d, .int .u32 s.e, .int .u32 s.f, .int .u32 s.g, .int .u32 s.h] 83)) W4 := F3.out.step hf4 (fun _ _ e => e.elim)
  have hc4 : W4.heap[w.heap.size + 1]? = some (.cells #[.int .i64 0, .int .i64 0, .int .i64 0, .int .i64 0, .int .i64 0, .int .i64 0, .int .i64 0, .int .i64 0] 23 (0, 0)) := hfr.heap (alloc_heap_old _ (alloc_heap_old _ HRC.out)) (by omega)
  have hb4 : Below w.heap.size w W4 := ((hw1.alloc (by omega) _).alloc (by simp; omega) _).trans (hfr.to_below (by simp; omega) (by omega))
  obtain ⟨S, hS⟩ : ∃ S, s.round (Sha.K.getD i 0) x = S := ⟨_, rfl⟩
  rw [hS]
  have HSS := Lib.hid hS
  clear hS
  unfold row64
  have y0 : W4.cell? ⟨w.heap.size + 1, 0, none⟩ = some (.int .i64 0) := cell_of hc4 0
  have f0 : W4.frozen? ⟨w.heap.size + 1, 0, none⟩ = false := frozen_of hc4 0
  have y1 : W4.cell? ⟨w.heap.size + 1, 1, none⟩ = some (.int .i64 0) := cell_of hc4 1
  have f1 : W4.frozen? ⟨w.heap.size + 1, 1, none⟩ = false := frozen_of hc4 1
  have y2 : W4.cell? ⟨w.heap.size + 1, 2, none⟩ = some (.int .i64 0) := cell_of hc4 2
  have f2 : W4.frozen? ⟨w.heap.size + 1, 2, none⟩ = false := frozen_of hc4 2
  have y3 : W4.cell? ⟨w.heap.size + 1, 3, none⟩ = some (.int .i64 0) := cell_of hc4 3
  have f3 : W4.frozen? ⟨w.heap.size + 1, 3, none⟩ = false := frozen_of hc4 3
  have y4 : W4.cell? ⟨w.heap.size + 1, 4, none⟩ = some (.int .i64 0) := cell_of hc4 4
  have f4 : W4.frozen? ⟨w.heap.size + 1, 4, none⟩ = false := frozen_of hc4 4
  have y5 : W4.cell? ⟨w.heap.size + 1, 5, none⟩ = some (.int .i64 0) := cell_of hc4 5
  have f5 : W4.frozen? ⟨w.heap.size + 1, 5, none⟩ = false := frozen_of hc4 5
  have y6 : W4.cell? ⟨w.heap.size + 1, 6, none⟩ = some (.int .i64 0) := cell_of hc4 6
  have f6 : W4.frozen? ⟨w.heap.size + 1, 6, none⟩ = false := frozen_of hc4 6
  have y7 : W4.cell? ⟨w.heap.size + 1, 7, none⟩ = some (.int .i64 0) := cell_of hc4 7
  have f7 : W4.frozen? ⟨w.heap.size + 1, 7, none⟩ = false := frozen_of hc4 7
  have HC4 := Lib.hid hc4
  clear hc4 hf4 hfr
  go_wp2_with fail
  have hX := store8 W4 (w.heap.size + 1) 23 _ _ _ _ _ _ _ _ (.int .i64 S.a) (.int .i64 S.b) (.int .i64 S.c) (.int .i64 S.d) (.int .i64 S.e) (.int .i64 S.f) (.int .i64 S.g) (.int .i64 S.h) HC4.out
  have hXb := below8 W4 (w.heap.size + 1) (.int .i64 S.a) (.int .i64 S.b) (.int .i64 S.c) (.int .i64 S.d) (.int .i64 S.e) (.int .i64 S.f) (.int .i64 S.g) (.int .i64 S.h) hb4 (by omega)
  exact bodyPost_ret (results27 _ _ (w.heap.size + 1) _ _ _ _ _ _ _ _ _ rfl rfl hX) rfl ⟨by rw [HSS.out]; rfl, hXb⟩
end Go.Proofs.YtfafidholldjlaaDoor
/- Bytes. -/
set_option linter.unusedVariables false
set_option linter.unusedSimpArgs false
namespace Go.Proofs.YtfafidholldjlaaDoor
open Go.RowKit
theorem info5 : (Tryd.prog.info? 5).map (fun i => (i.zero, i.size, i.bytes)) = some (some (.int .u8 0), 1, 1) := by kernel_rfl
/-- A word's bytes. -/
def wordBytes (x : Nat) : List UInt8 := [UInt8.ofNat (x / 16777216), UInt8.ofNat (x / 65536), UInt8.ofNat (x / 256), UInt8.ofNat x]
def stBytes (s : Sha.St) : List UInt8 := wordBytes s.a ++ wordBytes s.b ++ wordBytes s.c ++ wordBytes s.d ++ wordBytes s.e ++ wordBytes s.f ++ wordBytes s.g ++ wordBytes s.h
def byteCells (l : List UInt8) : List Value := l.map fun b => Value.int .u8 (b.toNat : Int)
theorem byteCells_append (l m : List UInt8) : byteCells (l ++ m) = byteCells l ++ byteCells m := by simp [byteCells]
theorem wordCells (x : Nat) : byteCells (wordBytes x) = [.int .u8 ((x : Int) / 16777216 % 256), .int .u8 ((x : Int) / 65536 % 256), .int .u8 ((x : Int) / 256 % 256), .int .u8 ((x : Int) % 256)] := by
  simp [byteCells, wordBytes]
theorem new4 (w : World) (a b c d : Value) (t : TypeId) : ∀ j u, [a, b, c, d][j]? = some u → (w.alloc (.cells #[a, b, c, d] t)).cell? ((⟨w.heap.size, 0, none⟩ : Addr).add j) = some u := by
  intro j u hj
  have hadd : (⟨w.heap.size, 0, none⟩ : Addr).add j = ⟨w.heap.size, j, none⟩ := by unfold Addr.add; split <;> simp_all
  rw [hadd]
  exact new_at rfl (by simpa using hj)
set_option maxRecDepth 100000 in
set_option maxHeartbeats 4000000 in
theorem bytes_ok (s : Sha.St) (hs : s.ok) {B : Nat} {aw ab : Addr} {w : World} (h : Glob B aw ab w) :
    Calls Tryd.prog 31 #[.agg #[.int .i64 s.a, .int .i64 s.b, .int .i64 s.c, .int .i64 s.d, .int .i64 s.e, .int .i64 s.f, .int .i64 s.g, .int .i64 s.h]] w fun e w' => e = .returned (.tuple #[.string ⟨(stBytes s).toArray⟩, .int .i64 0]) ∧ Below w.heap.size w w' := by
  have H := Lib.hid h
  have Hs := Lib.hid hs
  clear h hs
  obtain ⟨i0, hi, hz0, hz1, hz2⟩ := info_parts info5
  go_enter Tryd.func31, Tryd.ntmps31
  go_wp2_with fail
  refine (of_any s Hs.out _).mono ?_
  rintro e w1 ⟨rfl, hb1⟩
  simp only [World.size_alloc] at hb1
  have z1 : w.heap.size < w1.heap.size := by have := hb1.size; simp at this; omega
  have hw1 : Below w.heap.size w w1 := ((Below.refl _ w).alloc (Nat.le_refl _) _).trans (hb1.mono (by omega))
  clear hb1
  have Hw1 := Lib.hid hw1
  clear hw1
  have Hi := Lib.hid hi
  have Hz0 := Lib.hid hz0
  have Hz1 := Lib.hid hz1
  have Hz2 := Lib.hid hz2
  clear hi hz0 hz1 hz2
  go_wp2_with fail
  have hf0 : Below (w1.heap.size + 1) (w1.alloc (.cells #[.int .u32 s.a, .int .u32 s.b, .int .u32 s.c, .int .u32 s.d, .int .u32 s.e, .int .u32 s.f, .int .u32 s.g, .int .u32 s.h] 78)) (w1.alloc (.cells #[.int .u32 s.a, .int .u32 s.b, .int .u32 s.c, .int .u32 s.d, .int .u32 s.e, .int .u32 s.f, .int .u32 s.g, .int .u32 s.h] 78)) := Below.refl _ _
  have hn0 : w1.heap.size + 1 ≤ (w1.alloc (.cells #[.int .u32 s.a, .int .u32 s.b, .int .u32 s.c, .int .u32 s.d, .int .u32 s.e, .int .u32 s.f, .int .u32 s.g, .int .u32 s.h] 78)).heap.size := by simp
  have o0 := World.ownsRow_nil (w1.alloc (.cells #[.int .u32 s.a, .int .u32 s.b, .int .u32 s.c, .int .u32 s.d, .int .u32 s.e, .int .u32 s.f, .int .u32 s.g, .int .u32 s.h] 78)) (w1.heap.size + 1) 5 1
  generalize hW0 : w1.alloc (.cells #[.int .u32 s.a, .int .u32 s.b, .int .u32 s.c, .int .u32 s.d, .int .u32 s.e, .int .u32 s.f, .int .u32 s.g, .int .u32 s.h] 78) = W0 at hf0 hn0 o0 ⊢
  have HW0 := Lib.hid hW0
  have O0 := Lib.hid o0
  have F0 := Lib.hid hf0
  clear hW0 o0 hf0
  refine wp_loop_rounds 9 ?_
  rw [rounds_succ]
  go_wp2_with (at_builtin; refine wpList_append_own _ rfl (.tmp 22) (.tmp 34) 40 rfl (w1.heap.size + 1) 5 i0 (.int .u8 0) 1 1 Tryd.underlying40 Hi.out Hz0.out Hz1.out Hz2.out rfl (by decide) _ _ _ rfl (O0.out.alloc _) ⟨W0.heap.size, 0, none⟩ 4 4 [.int .u8 ((s.a : Int) / 16777216 % 256), .int .u8 ((s.a : Int) / 65536 % 256), .int .u8 ((s.a : Int) / 256 % 256), .int .u8 ((s.a : Int) % 256)] rfl rfl (new4 _ _ _ _ _ _) (by simp [Value.oneCell']) (by unfold maxLen; omega) (by omega) (Nat.le_trans hn0 (by simp)) ?_; intro v1 W1 o1 hgrow _; obtain ⟨g1, cap1, rfl, hg1, hl1⟩ := ownsRow_form o1; have hn1 : w1.heap.size + 1 ≤ W1.heap.size := (by omega); have hrl := O0.out.lt; have hf1 := F0.out.trans (((Below.refl (w1.heap.size + 1) W0).alloc hn0 _).grown hgrow (Nat.le_trans hn0 (by simp)) (fun k e => (hrl k e).1)); have O1 := Lib.hid o1; have F1 := Lib.hid hf1; clear o1 hf1 hgrow hrl)
  rw [rounds_succ]
  go_wp2_with (at_builtin; refine wpList_append_own _ rfl (.tmp 22) (.tmp 34) 40 rfl (w1.heap.size + 1) 5 i0 (.int .u8 0) 1 1 Tryd.underlying40 Hi.out Hz0.out Hz1.out Hz2.out rfl (by decide) _ _ _ rfl (O1.out.alloc _) ⟨W1.heap.size, 0, none⟩ 4 4 [.int .u8 ((s.b : Int) / 16777216 % 256), .int .u8 ((s.b : Int) / 65536 % 256), .int .u8 ((s.b : Int) / 256 % 256), .int .u8 ((s.b : Int) % 256)] rfl rfl (new4 _ _ _ _ _ _) (by simp [Value.oneCell']) (by unfold maxLen; omega) (by omega) (Nat.le_trans hn1 (by simp)) ?_; intro v2 W2 o2 hgrow _; obtain ⟨g2, cap2, rfl, hg2, hl2⟩ := ownsRow_form o2; have hn2 : w1.heap.size + 1 ≤ W2.heap.size := (by omega); have hrl := O1.out.lt; have hf2 := F1.out.trans (((Below.refl (w1.heap.size + 1) W1).alloc hn1 _).grown hgrow (Nat.le_trans hn1 (by simp)) (fun k e => (hrl k e).1)); have O2 := Lib.hid o2; have F2 := Lib.hid hf2; clear o2 hf2 hgrow hrl)
  rw [rounds_succ]
  go_wp2_with (at_builtin; refine wpList_append_own _ rfl (.tmp 22) (.tmp 34) 40 rfl (w1.heap.size + 1) 5 i0 (.int .u8 0) 1 1 Tryd.underlying40 Hi.out Hz0.out Hz1.out Hz2.out rfl (by decide) _ _ _ rfl (O2.out.alloc _) ⟨W2.heap.size, 0, none⟩ 4 4 [.int .u8 ((s.c : Int) / 16777216 % 256), .int .u8 ((s.c : Int) / 65536 % 256), .int .u8 ((s.c : Int) / 256 % 256), .int .u8 ((s.c : Int) % 256)] rfl rfl (new4 _ _ _ _ _ _) (by simp [Value.oneCell']) (by unfold maxLen; omega) (by omega) (Nat.le_trans hn2 (by simp)) ?_; intro v3 W3 o3 hgrow _; obtain ⟨g3, cap3, rfl, hg3, hl3⟩ := ownsRow_form o3; have hn3 : w1.heap.size + 1 ≤ W3.heap.size := (by omega); have hrl := O2.out.lt; have hf3 := F2.out.trans (((Below.refl (w1.heap.size + 1) W2).alloc hn2 _).grown hgrow (Nat.le_trans hn2 (by simp)) (fun k e => (hrl k e).1)); have O3 := Lib.hid o3; have F3 := Lib.hid hf3; clear o3 hf3 hgrow hrl)
  rw [rounds_succ]
  go_wp2_with (at_builtin; refine wpList_append_own _ rfl (.tmp 22) (.tmp 34) 40 rfl (w1.heap.size + 1) 5 i0 (.int .u8 0) 1 1 Tryd.underlying40 Hi.out Hz0.out Hz1.out Hz2.out rfl (by decide) _ _ _ rfl (O3.out.alloc _) ⟨W3.heap.size, 0, none⟩ 4 4 [.int .u8 ((s.d : Int) / 16777216 % 256), .int .u8 ((s.d : Int) / 65536 % 256), .int .u8 ((s.d : Int) / 256 % 256), .int .u8 ((s.d : Int) % 256)] rfl rfl (new4 _ _ _ _ _ _) (by simp [Value.oneCell']) (by unfold maxLen; omega) (by omega) (Nat.le_trans hn3 (by simp)) ?_; intro v4 W4 o4 hgrow _; obtain ⟨g4, cap4, rfl, hg4, hl4⟩ := ownsRow_form o4; have hn4 : w1.heap.size + 1 ≤ W4.heap.size := (by omega); have hrl := O3.out.lt; have hf4 := F3.out.trans (((Below.refl (w1.heap.size + 1) W3).alloc hn3 _).grown hgrow (Nat.le_trans hn3 (by simp)) (fun k e => (hrl k e).1)); have O4 := Lib.hid o4; have F4 := Lib.hid hf4; clear o4 hf4 hgrow hrl)
  rw [rounds_succ]
  go_wp2_with (at_builtin; refine wpList_append_own _ rfl (.tmp 22) (.tmp 34) 40 rfl (w1.heap.size + 1) 5 i0 (.int .u8 0) 1 1 Tryd.underlying40 Hi.out Hz0.out Hz1.out Hz2.out rfl (by decide) _ _ _ rfl (O4.out.alloc _) ⟨W4.heap.size, 0, none⟩ 4 4 [.int .u8 ((s.e : Int) / 16777216 % 256), .int .u8 ((s.e : Int) / 65536 % 256), .int .u8 ((s.e : Int) / 256 % 256), .int .u8 ((s.e : Int) % 256)] rfl rfl (new4 _ _ _ _ _ _) (by simp [Value.oneCell']) (by unfold maxLen; omega) (by omega) (Nat.le_trans hn4 (by simp)) ?_; intro v5 W5 o5 hgrow _; obtain ⟨g5, cap5, rfl, hg5, hl5⟩ := ownsRow_form o5; have hn5 : w1.heap.size + 1 ≤ W5.heap.size := (by omega); have hrl := O4.out.lt; have hf5 := F4.out.trans (((Below.refl (w1.heap.size + 1) W4).alloc hn4 _).grown hgrow (Nat.le_trans hn4 (by simp)) (fun k e => (hrl k e).1)); have O5 := Lib.hid o5; have F5 := Lib.hid hf5; clear o5 hf5 hgrow hrl)
  rw [rounds_succ]
  go_wp2_with (at_builtin; refine wpList_append_own _ rfl (.tmp 22) (.tmp 34) 40 rfl (w1.heap.size + 1) 5 i0 (.int .u8 0) 1 1 Tryd.underlying40 Hi.out Hz0.out Hz1.out Hz2.out rfl (by decide) _ _ _ rfl (O5.out.alloc _) ⟨W5.heap.size, 0, none⟩ 4 4 [.int .u8 ((s.f : Int) / 16777216 % 256), .int .u8 ((s.f : Int) / 65536 % 256), .int .u8 ((s.f : Int) / 256 % 256), .int .u8 ((s.f : Int) % 256)] rfl rfl (new4 _ _ _ _ _ _) (by simp [Value.oneCell']) (by unfold maxLen; omega) (by omega) (Nat.le_trans hn5 (by simp)) ?_; intro v6 W6 o6 hgrow _; obtain ⟨g6, cap6, rfl, hg6, hl6⟩ := ownsRow_form o6; have hn6 : w1.heap.size + 1 ≤ W6.heap.size := (by omega); have hrl := O5.out.lt; have hf6 := F5.out.trans (((Below.refl (w1.heap.size + 1) W5).alloc hn5 _).grown hgrow (Nat.le_trans hn5 (by simp)) (fun k e => (hrl k e).1)); have O6 := Lib.hid o6; have F6 := Lib.hid hf6; clear o6 hf6 hgrow hrl)
  rw [rounds_succ]
  go_wp2_with (at_builtin; refine wpList_append_own _ rfl (.tmp 22) (.tmp 34) 40 rfl (w1.heap.size + 1) 5 i0 (.int .u8 0) 1 1 Tryd.underlying40 Hi.out Hz0.out Hz1.out Hz2.out rfl (by decide) _ _ _ rfl (O6.out.alloc _) ⟨W6.heap.size, 0, none⟩ 4 4 [.int .u8 ((s.g : Int) / 16777216 % 256), .int .u8 ((s.g : Int) / 65536 % 256), .int .u8 ((s.g : Int) / 256 % 256), .int .u8 ((s.g : Int) % 256)] rfl rfl (new4 _ _ _ _ _ _) (by simp [Value.oneCell']) (by unfold maxLen; omega) (by omega) (Nat.le_trans hn6 (by simp)) ?_; intro v7 W7 o7 hgrow _; obtain ⟨g7, cap7, rfl, hg7, hl7⟩ := ownsRow_form o7; have hn7 : w1.heap.size + 1 ≤ W7.heap.size := (by omega); have hrl := O6.out.lt; have hf7 := F6.out.trans (((Below.refl (w1.heap.size + 1) W6).alloc hn6 _).grown hgrow (Nat.le_trans hn6 (by simp)) (fun k e => (hrl k e).1)); have O7 := Lib.hid o7; have F7 := Lib.hid hf7; clear o7 hf7 hgrow hrl)
  rw [rounds_succ]
  go_wp2_with (at_builtin; refine wpList_append_own _ rfl (.tmp 22) (.tmp 34) 40 rfl (w1.heap.size + 1) 5 i0 (.int .u8 0) 1 1 Tryd.underlying40 Hi.out Hz0.out Hz1.out Hz2.out rfl (by decide) _ _ _ rfl (O7.out.alloc _) ⟨W7.heap.size, 0, none⟩ 4 4 [.int .u8 ((s.h : Int) / 16777216 % 256), .int .u8 ((s.h : Int) / 65536 % 256), .int .u8 ((s.h : Int) / 256 % 256), .int .u8 ((s.h : Int) % 256)] rfl rfl (new4 _ _ _ _ _ _) (by simp [Value.oneCell']) (by unfold maxLen; omega) (by omega) (Nat.le_trans hn7 (by simp)) ?_; intro v8 W8 o8 hgrow _; obtain ⟨g8, cap8, rfl, hg8, hl8⟩ := ownsRow_form o8; have hn8 : w1.heap.size + 1 ≤ W8.heap.size := (by omega); have hrl := O7.out.lt; have hf8 := F7.out.trans (((Below.refl (w1.heap.size + 1) W7).alloc hn7 _).grown hgrow (Nat.le_trans hn7 (by simp)) (fun k e => (hrl k e).1)); have O8 := Lib.hid o8; have F8 := Lib.hid hf8; clear o8 hf8 hgrow hrl)
  have hx : ∀ j u, (byteCells (stBytes s))[j]? = some u → W8.cell? ⟨g8, j, none⟩ = some u := by
    intro j u hj
    refine ownsRow_cell O8.out j u ?_
    simp only [stBytes, byteCells_append, wordCells] at hj
    simpa using hj
  have hcv := run_convert_bytes_back (P := Tryd.prog) W8 40 9 5 ⟨g8, 0, none⟩ cap8 (stBytes s) Tryd.underlying40 Tryd.underlying5 Tryd.underlying9 (fun j hj => by
    rw [Addr.add_lit, Nat.zero_add]
    refine hx j _ ?_
    simp [byteCells, List.getElem?_eq_getElem hj])
  have HCV : (convert 40 9 (.slice (some ⟨g8, 0, none⟩) 32 cap8)).run Tryd.prog W8 = .ok (.string ⟨(stBytes s).toArray⟩) W8 := hcv
  clear hcv hx
  rw [rounds_succ]
  go_wp2_with fail
  have hw : Below w.heap.size w W8 := by
    have e1 : Below w.heap.size w1 W0 := HW0.out ▸ (Below.refl w.heap.size w1).alloc (by omega) _
    exact Hw1.out.trans (e1.trans (F8.out.mono (by omega)))
  exact bodyPost_ret (v := _) (by simp [results, Tryd.results31, go_sem]) rfl ⟨rfl, hw⟩

set_option maxRecDepth 100000 in
theorem bytes_bad (s0 s1 s2 s3 s4 s5 s6 s7 : Int) (hbad : ¬ Words8 s0 s1 s2 s3 s4 s5 s6 s7) {B : Nat} {aw ab : Addr} {w : World} (h : Glob B aw ab w) :
    Calls Tryd.prog 31 #[.agg #[.int .i64 s0, .int .i64 s1, .int .i64 s2, .int .i64 s3, .int .i64 s4, .int .i64 s5, .int .i64 s6, .int .i64 s7]] w fun e w' => e = .returned (.tuple #[.string ⟨#[]⟩, .int .i64 11]) ∧ Below w.heap.size w w' := by
  have H := Lib.hid h
  have Hb := Lib.hid hbad
  have hof := Lib.hid (fun W (hW : Below w.heap.size w W) => of_bad s0 s1 s2 s3 s4 s5 s6 s7 Hb.out (h.below (hW.mono h.size)))
  clear h hbad
  go_enter Tryd.func31, Tryd.ntmps31
  go_wp2_with fail
  refine (hof.out _ ((Below.refl _ _).alloc (Nat.le_refl _) _)).mono ?_
  rintro e w1 ⟨rfl, hb1⟩
  simp only [World.size_alloc] at hb1
  have z1 : w.heap.size < w1.heap.size := by have := hb1.size; simp at this; omega
  have hw1 : Below w.heap.size w w1 := ((Below.refl _ w).alloc (Nat.le_refl _) _).trans (hb1.mono (by omega))
  have HW1 := Lib.hid hw1
  clear hb1 hw1
  go_wp2_with fail
  refine (told_word (H.out.below ((HW1.out.mono H.out.size).alloc (by have := H.out.size; omega) _))).mono ?_
  rintro e w' ⟨rfl, rfl⟩
  go_wp2_with fail
  exact bodyPost_ret (v := _) (by simp [results, Tryd.results31, go_sem]) rfl ⟨rfl, HW1.out.alloc HW1.out.size _⟩
end Go.Proofs.YtfafidholldjlaaDoor
/- The state of the block of three letters, evaluated word by word. -/
set_option linter.unusedVariables false
set_option linter.unusedSimpArgs false
namespace Sha
theorem word_step (b : Nat → Nat) (t : Nat) {p q r s : Nat} (hp : word b t = p) (hq : word b (t + 1) = q) (hr : word b (t + 9) = r) (hs : word b (t + 14) = s) : word b (t + 16) = (p + sig0 q + r + sig1 s) % 4294967296 := by
  rw [word_16 b (t + 16) (by omega)]
  have e0 : t + 16 - 16 = t := by omega
  have e1 : t + 16 - 15 = t + 1 := by omega
  have e2 : t + 16 - 7 = t + 9 := by omega
  have e3 : t + 16 - 2 = t + 14 := by omega
  rw [e0, e1, e2, e3, hp, hq, hr, hs]
theorem round_step (u : St) (b : Nat → Nat) (t : Nat) {v : St} {x : Nat} (hv : u.rounds b t = v) (hx : word b t = x) : u.rounds b (t + 1) = v.round (K.getD t 0) x := by
  simp only [St.rounds, hv, hx]
/-- The block of the three letters. -/
def abc : List Nat := [97, 98, 99, 128, 0, 0, 0, 0, 0, 0, 0, 0, 0, 0, 0, 0, 0, 0, 0, 0, 0, 0, 0, 0, 0, 0, 0, 0, 0, 0, 0, 0, 0, 0, 0, 0, 0, 0, 0, 0, 0, 0, 0, 0, 0, 0, 0, 0, 0, 0, 0, 0, 0, 0, 0, 0, 0, 0, 0, 0, 0, 0, 0, 24]
def ab (i : Nat) : Nat := abc.getD i 0
/-- The first state. -/
def St.first : St := ⟨1779033703, 3144134277, 1013904242, 2773480762, 1359893119, 2600822924, 528734635, 1541459225⟩
theorem w0 : word ab 0 = 1633837952 := rfl
theorem w1 : word ab 1 = 0 := rfl
theorem w2 : word ab 2 = 0 := rfl
theorem w3 : word ab 3 = 0 := rfl
theorem w4 : word ab 4 = 0 := rfl
theorem w5 : word ab 5 = 0 := rfl
theorem w6 : word ab 6 = 0 := rfl
theorem w7 : word ab 7 = 0 := rfl
theorem w8 : word ab 8 = 0 := rfl
theorem w9 : word ab 9 = 0 := rfl
theorem w10 : word ab 10 = 0 := rfl
theorem w11 : word ab 11 = 0 := rfl
theorem w12 : word ab 12 = 0 := rfl
theorem w13 : word ab 13 = 0 := rfl
theorem w14 : word ab 14 = 0 := rfl
theorem w15 : word ab 15 = 24 := rfl
theorem w16 : word ab 16 = 1633837952 := (word_step ab 0 w0 w1 w9 w14).trans rfl
theorem w17 : word ab 17 = 983040 := (word_step ab 1 w1 w2 w10 w15).trans rfl
theorem w18 : word ab 18 = 2108187653 := (word_step ab 2 w2 w3 w11 w16).trans rfl
theorem w19 : word ab 19 = 1610613702 := (word_step ab 3 w3 w4 w12 w17).trans rfl
theorem w20 : word ab 20 = 1050508152 := (word_step ab 4 w4 w5 w13 w18).trans rfl
theorem w21 : word ab 21 = 25426944 := (word_step ab 5 w5 w6 w14 w19).trans rfl
theorem w22 : word ab 22 = 316456923 := (word_step ab 6 w6 w7 w15 w20).trans rfl
theorem w23 : word ab 23 = 3806512014 := (word_step ab 7 w7 w8 w16 w21).trans rfl
theorem w24 : word ab 24 = 3357629466 := (word_step ab 8 w8 w9 w17 w22).trans rfl
theorem w25 : word ab 25 = 3073800610 := (word_step ab 9 w9 w10 w18 w23).trans rfl
theorem w26 : word ab 26 = 3854317833 := (word_step ab 10 w10 w11 w19 w24).trans rfl
theorem w27 : word ab 27 = 845560923 := (word_step ab 11 w11 w12 w20 w25).trans rfl
theorem w28 : word ab 28 = 2636160359 := (word_step ab 12 w12 w13 w21 w26).trans rfl
theorem w29 : word ab 29 = 3968280267 := (word_step ab 13 w13 w14 w22 w27).trans rfl
theorem w30 : word ab 30 = 1881225380 := (word_step ab 14 w14 w15 w23 w28).trans rfl
theorem w31 : word ab 31 = 3552024379 := (word_step ab 15 w15 w16 w24 w29).trans rfl
theorem w32 : word ab 32 = 2482346367 := (word_step ab 16 w16 w17 w25 w30).trans rfl
theorem w33 : word ab 33 = 996719219 := (word_step ab 17 w17 w18 w26 w31).trans rfl
theorem w34 : word ab 34 = 2952069057 := (word_step ab 18 w18 w19 w27 w32).trans rfl
theorem w35 : word ab 35 = 4043988066 := (word_step ab 19 w19 w20 w28 w33).trans rfl
theorem w36 : word ab 36 = 176896406 := (word_step ab 20 w20 w21 w29 w34).trans rfl
theorem w37 : word ab 37 = 1924104970 := (word_step ab 21 w21 w22 w30 w35).trans rfl
theorem w38 : word ab 38 = 2483675966 := (word_step ab 22 w22 w23 w31 w36).trans rfl
theorem w39 : word ab 39 = 610538786 := (word_step ab 23 w23 w24 w32 w37).trans rfl
theorem w40 : word ab 40 = 2672279444 := (word_step ab 24 w24 w25 w33 w38).trans rfl
theorem w41 : word ab 41 = 4037431130 := (word_step ab 25 w25 w26 w34 w39).trans rfl
theorem w42 : word ab 42 = 1042573945 := (word_step ab 26 w26 w27 w35 w40).trans rfl
theorem w43 : word ab 43 = 657669027 := (word_step ab 27 w27 w28 w36 w41).trans rfl
theorem w44 : word ab 44 = 206005234 := (word_step ab 28 w28 w29 w37 w42).trans rfl
theorem w45 : word ab 45 = 2215296807 := (word_step ab 29 w29 w30 w38 w43).trans rfl
theorem w46 : word ab 46 = 2049510749 := (word_step ab 30 w30 w31 w39 w44).trans rfl
theorem w47 : word ab 47 = 106709978 := (word_step ab 31 w31 w32 w40 w45).trans rfl
theorem w48 : word ab 48 = 4215179723 := (word_step ab 32 w32 w33 w41 w46).trans rfl
theorem w49 : word ab 49 = 3430291419 := (word_step ab 33 w33 w34 w42 w47).trans rfl
theorem w50 : word ab 50 = 3118885940 := (word_step ab 34 w34 w35 w43 w48).trans rfl
theorem w51 : word ab 51 = 2845390439 := (word_step ab 35 w35 w36 w44 w49).trans rfl
theorem w52 : word ab 52 = 2226839261 := (word_step ab 36 w36 w37 w45 w50).trans rfl
theorem w53 : word ab 53 = 3256115900 := (word_step ab 37 w37 w38 w46 w51).trans rfl
theorem w54 : word ab 54 = 344409900 := (word_step ab 38 w38 w39 w47 w52).trans rfl
theorem w55 : word ab 55 = 2987358873 := (word_step ab 39 w39 w40 w48 w53).trans rfl
theorem w56 : word ab 56 = 4015503821 := (word_step ab 40 w40 w41 w49 w54).trans rfl
theorem w57 : word ab 57 = 3957764664 := (word_step ab 41 w41 w42 w50 w55).trans rfl
theorem w58 : word ab 58 = 2682456414 := (word_step ab 42 w42 w43 w51 w56).trans rfl
theorem w59 : word ab 59 = 2025622859 := (word_step ab 43 w43 w44 w52 w57).trans rfl
theorem w60 : word ab 60 = 2755645205 := (word_step ab 44 w44 w45 w53 w58).trans rfl
theorem w61 : word ab 61 = 1720397816 := (word_step ab 45 w45 w46 w54 w59).trans rfl
theorem w62 : word ab 62 = 4004225740 := (word_step ab 46 w46 w47 w55 w60).trans rfl
theorem w63 : word ab 63 = 313650667 := (word_step ab 47 w47 w48 w56 w61).trans rfl
theorem u0 : St.first.rounds ab 0 = ⟨1779033703, 3144134277, 1013904242, 2773480762, 1359893119, 2600822924, 528734635, 1541459225⟩ := rfl
theorem u1 : St.first.rounds ab 1 = ⟨1567288269, 1779033703, 3144134277, 1013904242, 4197074466, 1359893119, 2600822924, 528734635⟩ := (round_step _ ab 0 u0 w0).trans rfl
theorem u2 : St.first.rounds ab 2 = ⟨1516951981, 1567288269, 1779033703, 3144134277, 2026797449, 4197074466, 1359893119, 2600822924⟩ := (round_step _ ab 1 u1 w1).trans rfl
theorem u3 : St.first.rounds ab 3 = ⟨3368241063, 1516951981, 1567288269, 1779033703, 4180228587, 2026797449, 4197074466, 1359893119⟩ := (round_step _ ab 2 u2 w2).trans rfl
theorem u4 : St.first.rounds ab 4 = ⟨3578852966, 3368241063, 1516951981, 1567288269, 618661968, 4180228587, 2026797449, 4197074466⟩ := (round_step _ ab 3 u3 w3).trans rfl
theorem u5 : St.first.rounds ab 5 = ⟨71342698, 3578852966, 3368241063, 1516951981, 1135452741, 618661968, 4180228587, 2026797449⟩ := (round_step _ ab 4 u4 w4).trans rfl
theorem u6 : St.first.rounds ab 6 = ⟨725748213, 71342698, 3578852966, 3368241063, 1900175533, 1135452741, 618661968, 4180228587⟩ := (round_step _ ab 5 u5 w5).trans rfl
theorem u7 : St.first.rounds ab 7 = ⟨3842179968, 725748213, 71342698, 3578852966, 2603066369, 1900175533, 1135452741, 618661968⟩ := (round_step _ ab 6 u6 w6).trans rfl
theorem u8 : St.first.rounds ab 8 = ⟨2241887071, 3842179968, 725748213, 71342698, 207977081, 2603066369, 1900175533, 1135452741⟩ := (round_step _ ab 7 u7 w7).trans rfl
theorem u9 : St.first.rounds ab 9 = ⟨2382687417, 2241887071, 3842179968, 725748213, 852110732, 207977081, 2603066369, 1900175533⟩ := (round_step _ ab 8 u8 w8).trans rfl
theorem u10 : St.first.rounds ab 10 = ⟨2357671019, 2382687417, 2241887071, 3842179968, 482944406, 852110732, 207977081, 2603066369⟩ := (round_step _ ab 9 u9 w9).trans rfl
theorem u11 : St.first.rounds ab 11 = ⟨1201185780, 2357671019, 2382687417, 2241887071, 1131095016, 482944406, 852110732, 207977081⟩ := (round_step _ ab 10 u10 w10).trans rfl
theorem u12 : St.first.rounds ab 12 = ⟨4146054569, 1201185780, 2357671019, 2382687417, 2171590377, 1131095016, 482944406, 852110732⟩ := (round_step _ ab 11 u11 w11).trans rfl
theorem u13 : St.first.rounds ab 13 = ⟨2274437520, 4146054569, 1201185780, 2357671019, 509051416, 2171590377, 1131095016, 482944406⟩ := (round_step _ ab 12 u12 w12).trans rfl
theorem u14 : St.first.rounds ab 14 = ⟨3643992854, 2274437520, 4146054569, 1201185780, 1952073950, 509051416, 2171590377, 1131095016⟩ := (round_step _ ab 13 u13 w13).trans rfl
theorem u15 : St.first.rounds ab 15 = ⟨3227803614, 3643992854, 2274437520, 4146054569, 194179596, 1952073950, 509051416, 2171590377⟩ := (round_step _ ab 14 u14 w14).trans rfl
theorem u16 : St.first.rounds ab 16 = ⟨2969183118, 3227803614, 3643992854, 2274437520, 123276749, 194179596, 1952073950, 509051416⟩ := (round_step _ ab 15 u15 w15).trans rfl
theorem u17 : St.first.rounds ab 17 = ⟨567974555, 2969183118, 3227803614, 3643992854, 2150900380, 123276749, 194179596, 1952073950⟩ := (round_step _ ab 16 u16 w16).trans rfl
theorem u18 : St.first.rounds ab 18 = ⟨3271285201, 567974555, 2969183118, 3227803614, 2221859924, 2150900380, 123276749, 194179596⟩ := (round_step _ ab 17 u17 w17).trans rfl
theorem u19 : St.first.rounds ab 19 = ⟨4269243327, 3271285201, 567974555, 2969183118, 3431569761, 2221859924, 2150900380, 123276749⟩ := (round_step _ ab 18 u18 w18).trans rfl
theorem u20 : St.first.rounds ab 20 = ⟨3790736435, 4269243327, 3271285201, 567974555, 2959311225, 3431569761, 2221859924, 2150900380⟩ := (round_step _ ab 19 u19 w19).trans rfl
theorem u21 : St.first.rounds ab 21 = ⟨2647034723, 3790736435, 4269243327, 3271285201, 2329577776, 2959311225, 3431569761, 2221859924⟩ := (round_step _ ab 20 u20 w20).trans rfl
theorem u22 : St.first.rounds ab 22 = ⟨3261099373, 2647034723, 3790736435, 4269243327, 3777329520, 2329577776, 2959311225, 3431569761⟩ := (round_step _ ab 21 u21 w21).trans rfl
theorem u23 : St.first.rounds ab 23 = ⟨2812502591, 3261099373, 2647034723, 3790736435, 1240797514, 3777329520, 2329577776, 2959311225⟩ := (round_step _ ab 22 u22 w22).trans rfl
theorem u24 : St.first.rounds ab 24 = ⟨3319086477, 2812502591, 3261099373, 2647034723, 2856829767, 1240797514, 3777329520, 2329577776⟩ := (round_step _ ab 23 u23 w23).trans rfl
theorem u25 : St.first.rounds ab 25 = ⟨472655928, 3319086477, 2812502591, 3261099373, 673443729, 2856829767, 1240797514, 3777329520⟩ := (round_step _ ab 24 u24 w24).trans rfl
theorem u26 : St.first.rounds ab 26 = ⟨3454534525, 472655928, 3319086477, 2812502591, 339230094, 673443729, 2856829767, 1240797514⟩ := (round_step _ ab 25 u25 w25).trans rfl
theorem u27 : St.first.rounds ab 27 = ⟨3056518332, 3454534525, 472655928, 3319086477, 3343672598, 339230094, 673443729, 2856829767⟩ := (round_step _ ab 26 u26 w26).trans rfl
theorem u28 : St.first.rounds ab 28 = ⟨2010346792, 3056518332, 3454534525, 472655928, 3992961016, 3343672598, 339230094, 673443729⟩ := (round_step _ ab 27 u27 w27).trans rfl
theorem u29 : St.first.rounds ab 29 = ⟨909411017, 2010346792, 3056518332, 3454534525, 1628611511, 3992961016, 3343672598, 339230094⟩ := (round_step _ ab 28 u28 w28).trans rfl
theorem u30 : St.first.rounds ab 30 = ⟨2684750640, 909411017, 2010346792, 3056518332, 2917635127, 1628611511, 3992961016, 3343672598⟩ := (round_step _ ab 29 u29 w29).trans rfl
theorem u31 : St.first.rounds ab 31 = ⟨3935906338, 2684750640, 909411017, 2010346792, 17410874, 2917635127, 1628611511, 3992961016⟩ := (round_step _ ab 30 u30 w30).trans rfl
theorem u32 : St.first.rounds ab 32 = ⟨1941126133, 3935906338, 2684750640, 909411017, 3126399250, 17410874, 2917635127, 1628611511⟩ := (round_step _ ab 31 u31 w31).trans rfl
theorem u33 : St.first.rounds ab 33 = ⟨2564891911, 1941126133, 3935906338, 2684750640, 2631529974, 3126399250, 17410874, 2917635127⟩ := (round_step _ ab 32 u32 w32).trans rfl
theorem u34 : St.first.rounds ab 34 = ⟨4267724277, 2564891911, 1941126133, 3935906338, 1495571923, 2631529974, 3126399250, 17410874⟩ := (round_step _ ab 33 u33 w33).trans rfl
theorem u35 : St.first.rounds ab 35 = ⟨2846323596, 4267724277, 2564891911, 1941126133, 140458035, 1495571923, 2631529974, 3126399250⟩ := (round_step _ ab 34 u34 w34).trans rfl
theorem u36 : St.first.rounds ab 36 = ⟨1705037796, 2846323596, 4267724277, 2564891911, 4105175766, 140458035, 1495571923, 2631529974⟩ := (round_step _ ab 35 u35 w35).trans rfl
theorem u37 : St.first.rounds ab 37 = ⟨1101421745, 1705037796, 2846323596, 4267724277, 124953195, 4105175766, 140458035, 1495571923⟩ := (round_step _ ab 36 u36 w36).trans rfl
theorem u38 : St.first.rounds ab 38 = ⟨887035396, 1101421745, 1705037796, 2846323596, 2768741693, 124953195, 4105175766, 140458035⟩ := (round_step _ ab 37 u37 w37).trans rfl
theorem u39 : St.first.rounds ab 39 = ⟨1841658506, 887035396, 1101421745, 1705037796, 4034403272, 2768741693, 124953195, 4105175766⟩ := (round_step _ ab 38 u38 w38).trans rfl
theorem u40 : St.first.rounds ab 40 = ⟨2045405306, 1841658506, 887035396, 1101421745, 519815328, 4034403272, 2768741693, 124953195⟩ := (round_step _ ab 39 u39 w39).trans rfl
theorem u41 : St.first.rounds ab 41 = ⟨3597076326, 2045405306, 1841658506, 887035396, 641019235, 519815328, 4034403272, 2768741693⟩ := (round_step _ ab 40 u40 w40).trans rfl
theorem u42 : St.first.rounds ab 42 = ⟨3745932591, 3597076326, 2045405306, 1841658506, 2206934801, 641019235, 519815328, 4034403272⟩ := (round_step _ ab 41 u41 w41).trans rfl
theorem u43 : St.first.rounds ab 43 = ⟨397020670, 3745932591, 3597076326, 2045405306, 3737995029, 2206934801, 641019235, 519815328⟩ := (round_step _ ab 42 u42 w42).trans rfl
theorem u44 : St.first.rounds ab 44 = ⟨2638983059, 397020670, 3745932591, 3597076326, 4255271982, 3737995029, 2206934801, 641019235⟩ := (round_step _ ab 43 u43 w43).trans rfl
theorem u45 : St.first.rounds ab 45 = ⟨643991573, 2638983059, 397020670, 3745932591, 2819559920, 4255271982, 3737995029, 2206934801⟩ := (round_step _ ab 44 u44 w44).trans rfl
theorem u46 : St.first.rounds ab 46 = ⟨1923828625, 643991573, 2638983059, 397020670, 3077922209, 2819559920, 4255271982, 3737995029⟩ := (round_step _ ab 45 u45 w45).trans rfl
theorem u47 : St.first.rounds ab 47 = ⟨2706117808, 1923828625, 643991573, 2638983059, 3581645993, 3077922209, 2819559920, 4255271982⟩ := (round_step _ ab 46 u46 w46).trans rfl
theorem u48 : St.first.rounds ab 48 = ⟨1098003085, 2706117808, 1923828625, 643991573, 4274981830, 3581645993, 3077922209, 2819559920⟩ := (round_step _ ab 47 u47 w47).trans rfl
theorem u49 : St.first.rounds ab 49 = ⟨91585771, 1098003085, 2706117808, 1923828625, 3178315832, 4274981830, 3581645993, 3077922209⟩ := (round_step _ ab 48 u48 w48).trans rfl
theorem u50 : St.first.rounds ab 50 = ⟨4045142696, 91585771, 1098003085, 2706117808, 1851537676, 3178315832, 4274981830, 3581645993⟩ := (round_step _ ab 49 u49 w49).trans rfl
theorem u51 : St.first.rounds ab 51 = ⟨2047150241, 4045142696, 91585771, 1098003085, 1391578359, 1851537676, 3178315832, 4274981830⟩ := (round_step _ ab 50 u50 w50).trans rfl
theorem u52 : St.first.rounds ab 52 = ⟨2288941602, 2047150241, 4045142696, 91585771, 1227037726, 1391578359, 1851537676, 3178315832⟩ := (round_step _ ab 51 u51 w51).trans rfl
theorem u53 : St.first.rounds ab 53 = ⟨270520975, 2288941602, 2047150241, 4045142696, 1386118400, 1227037726, 1391578359, 1851537676⟩ := (round_step _ ab 52 u52 w52).trans rfl
theorem u54 : St.first.rounds ab 54 = ⟨4117770203, 270520975, 2288941602, 2047150241, 2672265155, 1386118400, 1227037726, 1391578359⟩ := (round_step _ ab 53 u53 w53).trans rfl
theorem u55 : St.first.rounds ab 55 = ⟨1053056219, 4117770203, 270520975, 2288941602, 3842906959, 2672265155, 1386118400, 1227037726⟩ := (round_step _ ab 54 u54 w54).trans rfl
theorem u56 : St.first.rounds ab 56 = ⟨952932627, 1053056219, 4117770203, 270520975, 1422599787, 3842906959, 2672265155, 1386118400⟩ := (round_step _ ab 55 u55 w55).trans rfl
theorem u57 : St.first.rounds ab 57 = ⟨4241590395, 952932627, 1053056219, 4117770203, 2606665836, 1422599787, 3842906959, 2672265155⟩ := (round_step _ ab 56 u56 w56).trans rfl
theorem u58 : St.first.rounds ab 58 = ⟨3227702383, 4241590395, 952932627, 1053056219, 2118385806, 2606665836, 1422599787, 3842906959⟩ := (round_step _ ab 57 u57 w57).trans rfl
theorem u59 : St.first.rounds ab 59 = ⟨4290184306, 3227702383, 4241590395, 952932627, 1837350854, 2118385806, 2606665836, 1422599787⟩ := (round_step _ ab 58 u58 w58).trans rfl
theorem u60 : St.first.rounds ab 60 = ⟨3064893439, 4290184306, 3227702383, 4241590395, 2988158269, 1837350854, 2118385806, 2606665836⟩ := (round_step _ ab 59 u59 w59).trans rfl
theorem u61 : St.first.rounds ab 61 = ⟨3093179625, 3064893439, 4290184306, 3227702383, 2518632596, 2988158269, 1837350854, 2118385806⟩ := (round_step _ ab 60 u60 w60).trans rfl
theorem u62 : St.first.rounds ab 62 = ⟨80891244, 3093179625, 3064893439, 4290184306, 2492278198, 2518632596, 2988158269, 1837350854⟩ := (round_step _ ab 61 u61 w61).trans rfl
theorem u63 : St.first.rounds ab 63 = ⟨3550093669, 80891244, 3093179625, 3064893439, 4212265488, 2492278198, 2518632596, 2988158269⟩ := (round_step _ ab 62 u62 w62).trans rfl
theorem u64 : St.first.rounds ab 64 = ⟨1349398616, 3550093669, 80891244, 3093179625, 1593118500, 4212265488, 2492278198, 2518632596⟩ := (round_step _ ab 63 u63 w63).trans rfl
theorem shown : St.first.compress ab = ⟨3128432319, 2399260650, 1094795486, 1571693091, 2953011619, 2518121116, 3021012833, 4060091821⟩ := by
  unfold St.compress
  rw [u64]
  rfl
end Sha
/- A text by its words: the first sixteen words of a schedule tell the block; no program in sight. -/
set_option linter.unusedVariables false
set_option linter.unusedSimpArgs false
namespace Go.Proofs.YtfafidholldjlaaDoor
/-- The first n bytes of a text. -/
def front (s : ByteArray) (n : Nat) : ByteArray := ⟨(s.data.toList.take n).toArray⟩
theorem front_zero (s : ByteArray) : front s 0 = ⟨#[]⟩ := by simp [front]
theorem front_all (s : ByteArray) (n : Nat) (h : s.size ≤ n) : front s n = s := by
  unfold front
  rw [List.take_of_length_le (by simpa using h)]
theorem front_size (s : ByteArray) (n : Nat) (h : n ≤ s.size) : (front s n).size = n := by
  show (s.data.toList.take n).toArray.size = n
  have h' : n ≤ s.data.size := h
  simp
  omega
theorem take_byte (s : ByteArray) (i : Nat) (h : i < s.size) : s.data.toList.take (i + 1) = s.data.toList.take i ++ [UInt8.ofNat (byteAt s i)] := by
  have h' : i < s.data.toList.length := by simpa using h
  rw [List.take_succ_eq_append_getElem h']
  unfold byteAt
  rw [List.getD_eq_getElem?_getD, List.getElem?_eq_getElem h']
  simp
theorem be_bytes (b : Nat → Nat) (hb : ∀ i, b i < 256) (t : Nat) : wordBytes (Sha.be b t) = [UInt8.ofNat (b (4 * t)), UInt8.ofNat (b (4 * t + 1)), UInt8.ofNat (b (4 * t + 2)), UInt8.ofNat (b (4 * t + 3))] := by
  have h0 := hb (4 * t); have h1 := hb (4 * t + 1); have h2 := hb (4 * t + 2); have h3 := hb (4 * t + 3)
  unfold wordBytes Sha.be
  simp only [List.cons.injEq, and_true]
  refine ⟨?_, ?_, ?_, ?_⟩ <;> (apply UInt8.toNat_inj.1; simp only [UInt8.toNat_ofNat']; omega)
theorem front_word (s : ByteArray) (t : Nat) (ht : t < 16) (hs : s.size = 64) : front s (4 * t) ++ ⟨(wordBytes (Sha.word (byteAt s) t)).toArray⟩ = front s (4 * (t + 1)) := by
  have e : Sha.word (byteAt s) t = Sha.be (byteAt s) t := by unfold Sha.word; rw [if_pos ht]
  rw [e, be_bytes _ (byteAt_lt s)]
  have e4 : 4 * (t + 1) = 4 * t + 1 + 1 + 1 + 1 := by omega
  apply ByteArray.ext
  rw [ByteArray.data_append]
  unfold front
  rw [e4, take_byte s _ (by omega), take_byte s _ (by omega), take_byte s _ (by omega), take_byte s _ (by omega)]
  simp
end Go.Proofs.YtfafidholldjlaaDoor
