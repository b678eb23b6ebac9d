/- The iterator over a block's schedule. -/
import Derived.Test.YtfafidholldjlaaDoorA6
import Derived.RangeFuncNested
import Derived.RangeFuncCalls
import Derived.RangeFuncLeaves
import Derived.OwnWalkIn
import Derived.TacticsInMore
import Derived.Deep.Cut
set_option linter.unusedVariables false
set_option linter.unusedSimpArgs false
namespace Go.Proofs.YtfafidholldjlaaDoor
open Go.RowKit
attribute [local go_sem] setCell_twice
attribute [local go_sem ↓] Go.wp_at_zero Go.wp_at_succ
/-- A text's byte at a place. -/
def byteAt (s : ByteArray) (i : Nat) : Nat := (s.data.toList.getD i 0).toNat
theorem byteAt_lt (s : ByteArray) (i : Nat) : byteAt s i < 256 := UInt8.toNat_lt _
def wRow (s : ByteArray) (t : Nat) : Array Value := ((List.range 64).map fun k => Value.int .u32 ((if k < t then Sha.word (byteAt s) k else 0 : Nat) : Int)).toArray
theorem wRow_get (s : ByteArray) (t k : Nat) (h : k < 64) : (wRow s t)[k]? = some (.int .u32 ((if k < t then Sha.word (byteAt s) k else 0 : Nat) : Int)) := by
  simp [wRow, h]
theorem wRow_set (s : ByteArray) (t : Nat) (h : t < 64) : (wRow s t).setIfInBounds t (.int .u32 (Sha.word (byteAt s) t : Nat)) = wRow s (t + 1) := by
  apply Array.ext
  · simp [wRow]
  · intro i h1 h2
    have hi : i < 64 := by simpa [wRow] using h2
    simp only [wRow, List.setIfInBounds_toArray, List.getElem_toArray, List.getElem_set, List.getElem_map, List.getElem_range]
    by_cases e : t = i
    · subst e; simp
    · rw [if_neg e]
      congr 2
      by_cases hl : i < t
      · rw [if_pos hl, if_pos (by omega)]
      · rw [if_neg hl, if_neg (by omega)]
theorem or_join (x b : Nat) (hx : x < 16777216) (hb : b < 256) : bits .or .u32 ((x : Int) * 256 % 4294967296) ((b : Int) % 4294967296) = ((x * 256 + b : Nat) : Int) := by
  have e1 : ((x : Int) * 256 % 4294967296) = ((x * 256 : Nat) : Int) := by omega
  have e2 : ((b : Int) % 4294967296) = (b : Int) := by omega
  rw [e1, e2, u32_or_nat _ _ (by omega) (by omega), nat_join 8 (x * 256) b (by omega) (by simpa using hb)]
theorem be_val (b0 b1 b2 b3 : Nat) (h0 : b0 < 256) (h1 : b1 < 256) (h2 : b2 < 256) (h3 : b3 < 256) :
    bits BinOp.or IntKind.u32 (bits BinOp.or IntKind.u32 (bits BinOp.or IntKind.u32 (bits BinOp.or IntKind.u32 0 ((b0 : Int) % 4294967296) * 256 % 4294967296) ((b1 : Int) % 4294967296) * 256 % 4294967296) ((b2 : Int) % 4294967296) * 256 % 4294967296) ((b3 : Int) % 4294967296) =
      ((((b0 * 256 + b1) * 256 + b2) * 256 + b3 : Nat) : Int) := by
  have e0 : bits BinOp.or IntKind.u32 0 ((b0 : Int) % 4294967296) = (b0 : Int) := by
    have := or_join 0 b0 (by omega) h0
    simpa using this
  rw [e0, or_join b0 b1 (by omega) h1, or_join (b0 * 256 + b1) b2 (by omega) h2, or_join ((b0 * 256 + b1) * 256 + b2) b3 (by omega) h3]
theorem far_setB {b : Nat} {a c : World} (h : Far (· = b) a c) (j : Nat) (v : Value) : Far (· = b) a (c.setCell ⟨b, j, none⟩ v) := h.setCell (fun _ => rfl) v
theorem sig_val (x y k : Nat) (hx : x < 4294967296) (hy : y < 4294967296) : bits .xor .u32 (x : Int) ((y : Int) / k) = ((x ^^^ (y / k) : Nat) : Int) := by
  have e : ((y : Int) / (k : Int)) = ((y / k : Nat) : Int) := by simp
  rw [e, u32_xor_nat _ _ hx (Nat.lt_of_le_of_lt (Nat.div_le_self _ _) hy)]
theorem sched_val (a b c d : Nat) (hb : b < 4294967296) (hd : d < 4294967296) :
    IntKind.u32.wrap (IntKind.u32.wrap (IntKind.u32.wrap ((a : Int) + bits BinOp.xor IntKind.u32 (Sha.turned b [7, 18] : Nat) ((b : Int) / 8)) + (c : Int)) + bits BinOp.xor IntKind.u32 (Sha.turned d [17, 19] : Nat) ((d : Int) / 1024)) =
      (((a + Sha.sig0 b + c + Sha.sig1 d) % 4294967296 : Nat) : Int) := by
  have e1 := sig_val (Sha.turned b [7, 18]) b 8 (Sha.turned_lt hb (by decide)) hb
  have e2 := sig_val (Sha.turned d [17, 19]) d 1024 (Sha.turned_lt hd (by decide)) hd
  rw [show ((8 : Int)) = ((8 : Nat) : Int) from rfl, show ((1024 : Int)) = ((1024 : Nat) : Int) from rfl, e1, e2]
  simp only [IntKind.wrap_u32']
  unfold Sha.sig0 Sha.sig1
  omega
set_option maxRecDepth 100000 in
set_option maxHeartbeats 4000000 in
theorem words_calls (s : ByteArray) (hs : s.size = 64) (l bs bw : Nat) (T T' : TypeId) (J : Nat → World → Prop)
    (hJ : ∀ t W W', J t W → Far (· = bw) W W' → J t W')
    (hY : ∀ t, t < 64 → ∀ W, J t W → YieldAt Fence.wide 3 Tryd.prog l #[.int .u32 (Sha.word (byteAt s) t : Nat)] W fun e W' => e = .returned (.bool true) ∧ J (t + 1) W' ∧ Far (fun k => k ≠ bs ∧ k ≠ bw) W W')
    (W : World) (hbs : W.heap[bs]? = some (.cells #[.string s] T (0, 0))) (hbw : W.heap[bw]? = some (.cells (wRow s 0) T' (0, 0))) (hne : bs ≠ bw) (h0 : J 0 W) :
    Calls Tryd.prog 82 #[.func (.yield l) #[] #[], .pointer (some ⟨bs, 0, none⟩), .pointer (some ⟨bw, 0, none⟩)] W fun e W' => e = .returned (.tuple #[]) ∧ J 64 W' := by
  have HJ := Lib.hid hJ
  have HY := Lib.hid hY
  have Hs := Lib.hid hs
  have Hbs := Lib.hid hbs
  have Hbw := Lib.hid hbw
  clear hJ hY hs hbs hbw
  go_enter Tryd.func82, Tryd.ntmps82
  go_wp2_with fail
  go_step3
  go_wp2_with fail
  go_step3
  go_wp2_with fail
  go_loopw [9] (fun i wr => ∃ t : Nat, t ≤ 64 ∧ i = .int .i64 t ∧ wr.heap[bs]? = some (.cells #[.string s] T (0, 0)) ∧ wr.heap[bw]? = some (.cells (wRow s t) T' (0, 0)) ∧ J t wr) (fun i _ => 64 - (intOf i).toNat)
  case atStart => exact ⟨0, Nat.zero_le _, rfl, Hbs.out, Hbw.out, h0⟩
  case round =>
    obtain ⟨t, ht, rfl, rbs, rbw, rJ⟩ := hrel
    by_cases hlt : t < 64
    · by_cases h16 : t < 16
      · have c1 : wr.cell? ⟨bs, 0, none⟩ = some (.string s) := cell_of rbs 0
        have hbwl : bw < wr.heap.size := lt_of_heap rbw
        obtain ⟨P, hP⟩ : ∃ P, s.extract (4 * t) (4 * t + 4) = P := ⟨_, rfl⟩
        have hPs : P.size = 4 := by rw [← hP]; simp [ByteArray.size_extract, Hs.out]; omega
        have hPb : ∀ j, j < 4 → ∀ h : j < P.data.size, P.data[j].toNat = byteAt s (4 * t + j) := by
          intro j hj h
          subst hP
          have h' : 4 * t + j < s.data.size := by have := Hs.out; have e : s.data.size = 64 := this; omega
          have e1 : byteAt s (4 * t + j) = (s.data[4 * t + j]'(h')).toNat := by
            unfold byteAt
            rw [List.getD_eq_getElem?_getD, List.getElem?_eq_getElem (by simpa using h')]
            rfl
          rw [e1]
          congr 1
          simp [ByteArray.data_extract]
        have hsl : (Instr.slice 9 (.string s) (some (.int .i64 (4 * (t : Int)))) (some (.int .i64 (4 * (t : Int) + 4))) none).run Tryd.prog wr = .ok (.string P) wr := by
          rw [run_slice_string (P := Tryd.prog) wr 9 s .i64 .i64 (4 * (t : Int)) (4 * (t : Int) + 4) Tryd.underlying9 (by omega) (by omega) (by have := Hs.out; omega), ← hP]
          rfl
        obtain ⟨C, hC⟩ : ∃ C, grownCap wr P.size 0 5 = C := ⟨_, rfl⟩
        obtain ⟨Wc, hWc⟩ : ∃ Wc, wr.drew.alloc (.cells (bytesRow P C) 5 ((bytesRow P C).size, (bytesRow P C).size + 1)) = Wc := ⟨_, rfl⟩
        have hcv : (convert 9 40 (.string P)).run Tryd.prog wr = .ok (.slice (some ⟨wr.heap.size, 0, none⟩) 4 C) Wc := by
          rw [← hWc, ← hC, ← hPs]
          exact run_bytes_of_string wr 9 40 5 P Tryd.underlying9 Tryd.underlying40 Tryd.underlying5
        have hbc : ∀ j, j < 4 → Wc.cell? ⟨wr.heap.size, j, none⟩ = some (.int .u8 (byteAt s (4 * t + j) : Nat)) := by
          intro j hj
          have hj' : j < P.data.size := by have : P.data.size = 4 := hPs; omega
          rw [← hWc, ← hPb j hj hj', ← bytesRow_at P C j hj']
          exact World.cell?_alloc_mark wr.drew _ _ _ j
        have b0 := hbc 0 (by omega)
        have b1 := hbc 1 (by omega)
        have b2 := hbc 2 (by omega)
        have b3 := hbc 3 (by omega)
        have hfc : Far (· = bw) wr Wc := by rw [← hWc]; exact ((Far.refl _ _).drew).alloc _
        have hcw : Wc.heap[bw]? = some (.cells (wRow s t) T' (0, 0)) := by rw [← hWc]; exact alloc_heap_old _ rbw
        have hcs : Wc.heap[bs]? = some (.cells #[.string s] T (0, 0)) := by rw [← hWc]; exact alloc_heap_old _ rbs
        have d0 : Wc.cell? ⟨bw, t, none⟩ = some (.int .u32 0) := by rw [cell_of hcw t, wRow_get s t t hlt]; simp
        have f0 : Wc.frozen? ⟨bw, t, none⟩ = false := frozen_of hcw t
        have hne2 : wr.heap.size ≠ bw := by omega
        have ti0 : (0 : Int) ≤ (t : Int) := by omega
        have ti1 : (t : Int) < 64 := by omega
        have Rcs := Lib.hid hcs
        have Rcw := Lib.hid hcw
        have RP := Lib.hid hPs
        clear rbs rbw hbc hWc hcs hcw hPb hP hC hPs
        go_wp2_with fail
        refine wp_loop_rounds 5 ?_
        iterate 4 (rw [rounds_succ]; go_wp2_with fail)
        rw [rounds_succ]
        go_upto_region 11 with (fail)
        have hV : bits BinOp.or IntKind.u32 (bits BinOp.or IntKind.u32 (bits BinOp.or IntKind.u32 (bits BinOp.or IntKind.u32 0 ((byteAt s (4 * t) : Int) % 4294967296) * 256 % 4294967296) ((byteAt s (4 * t + 1) : Int) % 4294967296) * 256 % 4294967296) ((byteAt s (4 * t + 2) : Int) % 4294967296) * 256 % 4294967296) ((byteAt s (4 * t + 3) : Int) % 4294967296) = (Sha.word (byteAt s) t : Nat) := by
          rw [be_val _ _ _ _ (byteAt_lt s _) (byteAt_lt s _) (byteAt_lt s _) (byteAt_lt s _)]
          simp [Sha.word, h16, Sha.be]
        rw [hV]
        clear hV
        have hX : (Wc.setCell ⟨bw, t, none⟩ (.int .u32 (Sha.word (byteAt s) t : Nat))).heap[bw]? = some (.cells (wRow s (t + 1)) T' (0, 0)) := by
          have := setCell_heap Rcw.out t (.int .u32 (Sha.word (byteAt s) t : Nat))
          rwa [wRow_set s t hlt] at this
        have hXs : (Wc.setCell ⟨bw, t, none⟩ (.int .u32 (Sha.word (byteAt s) t : Nat))).heap[bs]? = some (.cells #[.string s] T (0, 0)) := (Below.heap_setCell _ _ _ _ hne).trans Rcs.out
        have hXJ : J t (Wc.setCell ⟨bw, t, none⟩ (.int .u32 (Sha.word (byteAt s) t : Nat))) := HJ.out t wr _ rJ (hfc.setCell (fun _ => rfl) _)
        generalize Wc.setCell ⟨bw, t, none⟩ (.int .u32 (Sha.word (byteAt s) t : Nat)) = X at hX hXs hXJ
        clear hcv hsl b0 b1 b2 b3 c1 d0 f0 hfc rJ
        obtain ⟨fn, tmps, assign, body, hy, hR⟩ := HY.out t hlt X hXJ
        have e0 : X.cell? ⟨bw, t, none⟩ = some (.int .u32 (Sha.word (byteAt s) t : Nat)) := by rw [cell_of hX t, wRow_get s _ t hlt]; simp
        have RX := Lib.hid hX
        have RXs := Lib.hid hXs
        have RR := Lib.hid hR
        clear hX hXs hR
        refine (wpIn_wide (n := 4)).1 ?_
        gi_wp2
        refine (RR.out).mono ?_
        rintro e W3 ⟨rfl, hJ3, hF3⟩
        gi_wp2
        go_wp2_with fail
        go_roundw
        case rel => exact ⟨t + 1, by omega, by go_num, hF3.heap RXs.out (by simp), hF3.heap RX.out (by simp), hJ3⟩
        case measure => simp [intOf]; omega
      · have hbwl : bw < wr.heap.size := lt_of_heap rbw
        have hb16 : wr.cell? ⟨bw, t - 16, none⟩ = some (.int .u32 (Sha.word (byteAt s) (t - 16) : Nat)) := by rw [cell_of rbw, wRow_get s t _ (by omega), if_pos (by omega)]
        have hb15 : wr.cell? ⟨bw, t - 15, none⟩ = some (.int .u32 (Sha.word (byteAt s) (t - 15) : Nat)) := by rw [cell_of rbw, wRow_get s t _ (by omega), if_pos (by omega)]
        have hb7 : wr.cell? ⟨bw, t - 7, none⟩ = some (.int .u32 (Sha.word (byteAt s) (t - 7) : Nat)) := by rw [cell_of rbw, wRow_get s t _ (by omega), if_pos (by omega)]
        have hb2 : wr.cell? ⟨bw, t - 2, none⟩ = some (.int .u32 (Sha.word (byteAt s) (t - 2) : Nat)) := by rw [cell_of rbw, wRow_get s t _ (by omega), if_pos (by omega)]
        have hbt : wr.cell? ⟨bw, t, none⟩ = some (.int .u32 0) := by rw [cell_of rbw, wRow_get s t t hlt]; simp
        have hft : wr.frozen? ⟨bw, t, none⟩ = false := frozen_of rbw t
        have i16a : (0 : Int) ≤ (t : Int) - 16 := by omega
        have i16b : (t : Int) - 16 < 64 := by omega
        have i15a : (0 : Int) ≤ (t : Int) - 15 := by omega
        have i15b : (t : Int) - 15 < 64 := by omega
        have i7a : (0 : Int) ≤ (t : Int) - 7 := by omega
        have i7b : (t : Int) - 7 < 64 := by omega
        have i7c : (7 : Int) ≤ (t : Int) := by omega
        have i16c : (16 : Int) ≤ (t : Int) := by omega
        have i2a : (0 : Int) ≤ (t : Int) - 2 := by omega
        have i2b : (t : Int) - 2 < 64 := by omega
        have ti0 : (0 : Int) ≤ (t : Int) := by omega
        have ti1 : (t : Int) < 64 := by omega
        have l15 := Sha.word_lt (byteAt s) (byteAt_lt s) (t - 15)
        have l2 := Sha.word_lt (byteAt s) (byteAt_lt s) (t - 2)
        have Rbs := Lib.hid rbs
        have Rbw := Lib.hid rbw
        clear rbs rbw
        go_wp2_with fail
        go_quiet (fail)
        go_wp2_with fail
        have hV : IntKind.u32.wrap (IntKind.u32.wrap (IntKind.u32.wrap ((Sha.word (byteAt s) (t - 16) : Int) + bits BinOp.xor IntKind.u32 (Sha.turned (Sha.word (byteAt s) (t - 15)) [7, 18] : Nat) ((Sha.word (byteAt s) (t - 15) : Int) / 8)) + (Sha.word (byteAt s) (t - 7) : Int)) + bits BinOp.xor IntKind.u32 (Sha.turned (Sha.word (byteAt s) (t - 2)) [17, 19] : Nat) ((Sha.word (byteAt s) (t - 2) : Int) / 1024)) = (Sha.word (byteAt s) t : Nat) := by
          rw [sched_val _ _ _ _ (Sha.word_lt _ (byteAt_lt s) _) (Sha.word_lt _ (byteAt_lt s) _), ← Sha.word_16 (byteAt s) t (by omega)]
        have HV := Lib.hid hV
        clear hV
        have hbt2 : ∀ n o1 o2, (((wr.drewN n).alloc o1).alloc o2).cell? ⟨bw, t, none⟩ = some (.int .u32 0) := fun n o1 o2 => new_past (by simp; omega) (new_past hbwl hbt)
        have hft2 : ∀ n o1 o2, (((wr.drewN n).alloc o1).alloc o2).frozen? ⟨bw, t, none⟩ = false := fun n o1 o2 => frozen_past (by simp; omega) (frozen_past hbwl hft)
        have w16 : IntKind.i64.wrap ((t : Int) - 16) = (t : Int) - 16 := IntWalk.i64_in _ (by omega)
        have w7 : IntKind.i64.wrap ((t : Int) - 7) = (t : Int) - 7 := IntWalk.i64_in _ (by omega)
        have n16 : ((t : Int) - 16).toNat = t - 16 := by omega
        have n7 : ((t : Int) - 7).toNat = t - 7 := by omega
        go_region_held3 (fun w' => w'.cell? ⟨bw, t - 16, none⟩ = some (.int .u32 (Sha.word (byteAt s) (t - 16) : Nat)) ∧ w'.cell? ⟨bw, t - 7, none⟩ = some (.int .u32 (Sha.word (byteAt s) (t - 7) : Nat))) (first | go_keep | exact ⟨new_past (by simp [World.setCell]; omega) (cell_other (by omega) (new_past hbwl hb16)), new_past (by simp [World.setCell]; omega) (cell_other (by omega) (new_past hbwl hb7))⟩) (first | (go_at_call 83; (with_reducible refine (turned_s0 _ _ _ _ l15 ?_ ?_).mono ?_); (first | (go_simp; done) | exact new_at (by simp) rfl | exact new_past (by simp) (new_at (by simp) rfl)); (first | (go_simp; done) | exact new_at (by simp) rfl | exact new_past (by simp) (new_at (by simp) rfl)); rintro e w1 ⟨rfl, rfl⟩) | (go_at_call 83; (with_reducible refine (turned_s1 _ _ _ _ l2 ?_ ?_).mono ?_); (first | (go_simp; done) | exact new_at (by simp) rfl | exact new_past (by simp) (new_at (by simp) rfl)); (first | (go_simp; done) | exact new_at (by simp) rfl | exact new_past (by simp) (new_at (by simp) rfl)); rintro e w1 ⟨rfl, rfl⟩))
        all_goals clear hbt2 hft2 w16 w7 n16 n7 i16a i16b i15a i15b i7a i7b i7c i16c i2a i2b hb16 hb15 hb7 hb2 hbt hft l15 l2
        all_goals go_upto_region 11 with (fail)
        all_goals rw [HV.out]
        all_goals generalize hXe : World.alloc (World.setCell _ _ _) _ = X
        all_goals
          have hX : X.heap[bw]? = some (.cells (wRow s (t + 1)) T' (0, 0)) := by
            rw [← hXe, ← wRow_set s t hlt]
            exact alloc_heap_old _ (setCell_heap (alloc_heap_old _ Rbw.out) t _)
          have hXs : X.heap[bs]? = some (.cells #[.string s] T (0, 0)) := by
            rw [← hXe]
            exact alloc_heap_old _ ((Below.heap_setCell _ _ _ _ hne).trans (alloc_heap_old _ Rbs.out))
          have hXJ : J t X := HJ.out t wr _ rJ (by rw [← hXe]; exact (far_setB (((Far.refl _ _).drewN _).alloc _) _ _).alloc _)
          clear hXe
          obtain ⟨fn, tmps, assign, body, hy, hR⟩ := HY.out t hlt X hXJ
          have e0 : X.cell? ⟨bw, t, none⟩ = some (.int .u32 (Sha.word (byteAt s) t : Nat)) := by rw [cell_of hX t, wRow_get s _ t hlt]; simp
          have RX := Lib.hid hX
          have RXs := Lib.hid hXs
          have RR := Lib.hid hR
          clear hX hXs hR
          refine (wpIn_wide (n := 4)).1 ?_
          gi_wp2
          refine (RR.out).mono ?_
          rintro e W3 ⟨rfl, hJ3, hF3⟩
          gi_wp2
          go_wp2_with fail
          go_roundw
          case rel => exact ⟨t + 1, by omega, by go_num, hF3.heap RXs.out (by simp), hF3.heap RX.out (by simp), hJ3⟩
          case measure => simp [intOf]; omega
    · obtain rfl : t = 64 := by omega
      go_wp2_with fail
      rw [Exit.noGoto_normal]
      go_end0
      exact ⟨rfl, rJ⟩
end Go.Proofs.YtfafidholldjlaaDoor
