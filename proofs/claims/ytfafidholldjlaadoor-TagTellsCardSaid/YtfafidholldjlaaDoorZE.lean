/- The document's answer for the rounds, its leaves: xor, turn. -/
import Derived.Test.YtfafidholldjlaaDoorZA
import Derived.Test.YtfafidholldjlaaDoorZB
import Derived.WalkKit
import Derived.IntWalk
import Derived.Lib.Hide
import Derived.Deep.QuietTactic
import Derived.BigQuiet
import Derived.OwnWalkIn
import Derived.TacticsInMore
import Derived.BigRegion
import Derived.Deep.RegionHeld3
import Derived.Deep.AppendLies
import Derived.Deep.RegionLaw
set_option linter.unusedVariables false
set_option linter.unusedSimpArgs false
namespace Go.Proofs.YtfafidholldjlaaDoor
open Go.RowKit
theorem word64 (a : Nat) (ha : a < 4294967296) : (BitVec.ofInt 64 (a : Int)).toNat = a := by
  rw [BitVec.ofInt_natCast, BitVec.toNat_ofNat]; exact Nat.mod_eq_of_lt (by omega)
theorem i64_xor_word (a b : Nat) (ha : a < 4294967296) (hb : b < 4294967296) : bits .xor .i64 (a : Int) (b : Int) = ((a ^^^ b : Nat) : Int) := by
  have hx : a ^^^ b < 2 ^ 32 := Nat.xor_lt_two_pow (by omega) (by omega)
  show IntKind.i64.wrap ((BitVec.ofInt 64 (a : Int) ^^^ BitVec.ofInt 64 (b : Int)).toNat : Int) = _
  rw [BitVec.toNat_xor, word64 a ha, word64 b hb]
  exact IntWalk.i64_in _ (by omega)
theorem i64_and_word (a b : Nat) (ha : a < 4294967296) (hb : b < 4294967296) : bits .and .i64 (a : Int) (b : Int) = ((a &&& b : Nat) : Int) := by
  have hx : a &&& b < 2 ^ 32 := Nat.and_lt_two_pow _ (by omega)
  show IntKind.i64.wrap ((BitVec.ofInt 64 (a : Int) &&& BitVec.ofInt 64 (b : Int)).toNat : Int) = _
  rw [BitVec.toNat_and, word64 a ha, word64 b hb]
  exact IntWalk.i64_in _ (by omega)
theorem ref_xor (a b c : Nat) (ha : a < 4294967296) (hb : b < 4294967296) (hc : c < 4294967296) (w : World) :
    Calls Tryd.prog 63 #[.int .i64 (a : Int), .int .i64 (b : Int), .int .i64 (c : Int)] w fun e w' => e = .returned (.int .i64 (((a ^^^ b) ^^^ c : Nat) : Int)) ∧ w = w' := by
  have h1 : Hid (bits .xor .i64 (bits .xor .i64 (a : Int) (b : Int)) (c : Int) = (((a ^^^ b) ^^^ c : Nat) : Int)) := by
    refine Lib.hid ?_
    rw [i64_xor_word a b ha hb, i64_xor_word _ c (Nat.xor_lt_two_pow (n := 32) ha hb) hc]
  clear ha hb hc
  go_enter Tryd.func63, Tryd.ntmps63
  go_wp2
  go_ret
  exact ⟨ret_int h1.out, rfl⟩
theorem turn_val (x n : Nat) (hx : x < 4294967296) (h1 : 1 ≤ n) (h2 : n ≤ 31) :
    wrap64 ((x : Int) / 2 ^ n + (wrap64 ((x : Int) * wrap64 (2 ^ (32 - n)))).tmod 4294967296) = ((Sha.rr x n : Nat) : Int) := by
  have hp : 2 ^ (32 - n) ≤ 2 ^ 31 := Nat.pow_le_pow_right (by decide) (by omega)
  have e0 : ((2 : Int) ^ (32 - n)) = ((2 ^ (32 - n) : Nat) : Int) := by simp
  have e1 : ((2 : Int) ^ n) = ((2 ^ n : Nat) : Int) := by simp
  rw [e0, e1]
  have hr := Sha.rr_lt hx (show n ≤ 32 by omega) h1
  unfold Sha.rr at hr ⊢
  generalize 2 ^ (32 - n) = p at hp hr ⊢
  generalize 2 ^ n = q at hr ⊢
  have hm : x * p ≤ 4294967295 * 2147483648 := Nat.mul_le_mul (by omega) hp
  have e2 : ((x : Int) * (p : Int)) = ((x * p : Nat) : Int) := by simp
  rw [IntWalk.wrap64_in (p : Int) (by omega), e2]
  generalize x * p = y at hm hr ⊢
  have e3 : ((x : Int) / (q : Int)) = ((x / q : Nat) : Int) := by simp
  rw [IntWalk.wrap64_in (y : Int) (by omega), e3]
  generalize x / q = z at hr ⊢
  have e4 : (y : Int).tmod 4294967296 = ((y % 4294967296 : Nat) : Int) := by rw [Int.tmod_eq_emod_of_nonneg (by omega)]; simp
  rw [e4, IntWalk.wrap64_in _ (by omega)]
  omega
theorem ref_turn (x n : Nat) (hx : x < 4294967296) (h1 : 1 ≤ n) (h2 : n ≤ 31) (w : World) :
    Calls Tryd.prog 64 #[.int .i64 (x : Int), .int .i64 (n : Int)] w fun e w' => e = .returned (.int .i64 ((Sha.rr x n : Nat) : Int)) ∧ ∃ m, w' = w.drewN m := by
  have s0 : (0 : Int) ≤ 32 - (n : Int) := by omega
  have s1 : IntKind.i64.wrap (32 - (n : Int)) = 32 - (n : Int) := IntWalk.i64_in _ (by omega)
  have s2 : (32 - (n : Int)).toNat = 32 - n := by omega
  have s3 : (n : Int).toNat = n := by omega
  go_enter Tryd.func64, Tryd.ntmps64
  go_wp2_with fail
  go_quiet (fail)
  go_wp2_with fail
  go_ret
  exact ⟨ret_int (turn_val x n hx h1 h2), _, rfl⟩
end Go.Proofs.YtfafidholldjlaaDoor
/- The document's answer for the rounds: words, First, Ints. -/
set_option linter.unusedVariables false
set_option linter.unusedSimpArgs false
namespace Go.Proofs.YtfafidholldjlaaDoor
open Go.RowKit
def inWord (x : Int) : Prop := 0 ≤ x ∧ x ≤ 4294967295
theorem cell_list {w : World} {b : Nat} {T : TypeId} {l : List Int} (h : w.heap[b]? = some (.cells (l.map (Value.int .i64)).toArray T (0, 0))) (k : Nat) (hk : k < l.length) : w.cell? ⟨b, k, none⟩ = some (.int .i64 (l.getD k 0)) := by
  rw [cell_of h k]
  simp [hk]
set_option maxRecDepth 100000 in
theorem ref_words (s0 s1 s2 s3 s4 s5 s6 s7 : Int) (R : Bool) (hR : R = true ↔ ∀ j, j < 8 → inWord (([s0, s1, s2, s3, s4, s5, s6, s7] : List Int).getD j 0)) (w : World) :
    Calls Tryd.prog 68 #[.agg #[.int .i64 s0, .int .i64 s1, .int .i64 s2, .int .i64 s3, .int .i64 s4, .int .i64 s5, .int .i64 s6, .int .i64 s7]] w fun e w' => e = .returned (.bool R) ∧ w' = w.alloc (.cells #[.int .i64 s0, .int .i64 s1, .int .i64 s2, .int .i64 s3, .int .i64 s4, .int .i64 s5, .int .i64 s6, .int .i64 s7] 23) := by
  have hb : (w.alloc (.cells #[.int .i64 s0, .int .i64 s1, .int .i64 s2, .int .i64 s3, .int .i64 s4, .int .i64 s5, .int .i64 s6, .int .i64 s7] 23)).heap[w.heap.size]? = some (.cells (([s0, s1, s2, s3, s4, s5, s6, s7] : List Int).map (Value.int .i64)).toArray 23 (0, 0)) := alloc_heap _ _
  have hl : ([s0, s1, s2, s3, s4, s5, s6, s7] : List Int).length = 8 := rfl
  generalize hL : ([s0, s1, s2, s3, s4, s5, s6, s7] : List Int) = L at hR hb hl
  have Hb := Lib.hid hb
  have HR := Lib.hid hR
  have Hl := Lib.hid hl
  clear hb hR hl hL
  go_enter Tryd.func68, Tryd.ntmps68
  go_wp2_with fail
  generalize hWe : w.alloc (.cells #[.int .i64 s0, .int .i64 s1, .int .i64 s2, .int .i64 s3, .int .i64 s4, .int .i64 s5, .int .i64 s6, .int .i64 s7] 23) = W at Hb ⊢
  have HWe := Lib.hid hWe
  clear hWe
  go_loop [3] (fun i => ∃ k : Nat, k ≤ 8 ∧ i = .int .i64 k ∧ ∀ j, j < k → inWord (L.getD j 0)) (fun i => 8 - (intOf i).toNat)
  case atStart => exact ⟨0, by omega, rfl, fun j h => absurd h (by omega)⟩
  case round =>
    obtain ⟨k, hk, rfl, hg⟩ := hrel
    have Hg := Lib.hid hg
    clear hg
    by_cases hlt : k < 8
    · have hc := cell_list Hb.out k (by rw [Hl.out]; exact hlt)
      have i0 : (0 : Int) ≤ (k : Int) := by omega
      have i1 : (k : Int) < 8 := by omega
      obtain ⟨x, hx⟩ : ∃ x, L.getD k 0 = x := ⟨_, rfl⟩
      rw [hx] at hc
      have Hx := Lib.hid hx
      clear hx
      by_cases c0 : x < 0
      · obtain rfl : R = false := by
          rw [Bool.eq_false_iff]; intro e
          have := (HR.out.1 e k hlt).1
          rw [Hx.out] at this; omega
        go_wp2_with fail
        go_ret
        exact ⟨rfl, HWe.out.symm⟩
      · by_cases c1 : 4294967295 < x
        · obtain rfl : R = false := by
            rw [Bool.eq_false_iff]; intro e
            have := (HR.out.1 e k hlt).2
            rw [Hx.out] at this; omega
          go_wp2_with fail
          go_ret
          exact ⟨rfl, HWe.out.symm⟩
        · go_wp2_with fail
          go_round
          case rel =>
            refine ⟨k + 1, by omega, by go_num, fun j h => ?_⟩
            by_cases e : j = k
            · subst e; rw [Hx.out]; exact ⟨by omega, by omega⟩
            · exact Hg.out j (by omega)
          case measure => simp [intOf]; omega
    · obtain rfl : k = 8 := by omega
      obtain rfl : R = true := HR.out.2 Hg.out
      go_wp2_with fail
      go_ret
      exact ⟨rfl, HWe.out.symm⟩
set_option maxRecDepth 100000 in
theorem ref_first (w : World) : Calls Tryd.prog 34 #[] w fun e w' => e = .returned (.agg #[.int .i64 1779033703, .int .i64 3144134277, .int .i64 1013904242, .int .i64 2773480762, .int .i64 1359893119, .int .i64 2600822924, .int .i64 528734635, .int .i64 1541459225]) ∧ Below w.heap.size w w' := by
  go_enter Tryd.func34, Tryd.ntmps34
  go_wp2_with fail
  exact bodyPost_ret (v := _) (by simp [results, Tryd.results34, go_sem]) rfl ⟨rfl, (Below.refl _ _).alloc (Nat.le_refl _) _⟩
/-- Two lists of the same numbers are the same. -/
theorem ref_ints (ga gb ca cb n : Nat) (f : Nat → Int) (w : World) (ha : ∀ j, j < n → w.cell? ⟨ga, j, none⟩ = some (.int .i64 (f j))) (hb : ∀ j, j < n → w.cell? ⟨gb, j, none⟩ = some (.int .i64 (f j))) (hn : n ≤ 1000) :
    Calls Tryd.prog 35 #[.slice (some ⟨ga, 0, none⟩) n ca, .slice (some ⟨gb, 0, none⟩) n cb] w fun e w' => e = .returned (.bool true) ∧ ∃ q, w' = w.drewN q := by
  have Ha := Lib.hid ha
  have Hb := Lib.hid hb
  clear ha hb
  go_enter Tryd.func35, Tryd.ntmps35
  go_wp2_with fail
  go_loopw [5] (fun i wr => ∃ t : Nat, t ≤ n ∧ i = .int .i64 t ∧ ∃ q, wr = w.drewN q) (fun i _ => n - (intOf i).toNat)
  case atStart => exact ⟨0, by omega, rfl, 0, rfl⟩
  case round =>
    obtain ⟨t, ht, rfl, q, rfl⟩ := hrel
    by_cases hlt : t < n
    · have c0 : w.cell? ⟨ga, t, none⟩ = some (.int .i64 (f t)) := Ha.out t hlt
      have c1 : w.cell? ⟨gb, t, none⟩ = some (.int .i64 (f t)) := Hb.out t hlt
      have i0 : (0 : Int) ≤ (t : Int) := by omega
      have i1 : (t : Int) < n := by omega
      generalize f t = x at c0 c1
      have hb0 : (x != x) = false := by simp
      go_wp2_with fail
      go_quiet (fail)
      go_wp2_with fail
      go_roundw
      case rel => exact ⟨t + 1, by omega, by go_num, _, rfl⟩
      case measure => simp [intOf]; omega
    · obtain rfl : t = n := by omega
      go_wp2_with fail
      go_ret
      exact ⟨rfl, _, rfl⟩
theorem ref_ints_nil (w : World) : Calls Tryd.prog 35 #[.slice none 0 0, .slice none 0 0] w fun e w' => e = .returned (.bool true) ∧ w = w' := by
  go_enter Tryd.func35, Tryd.ntmps35
  go_wp2_with fail
  refine wp_loop_rounds 1 ?_
  rw [rounds_succ]
  go_wp2_with fail
  go_ret
  exact ⟨rfl, rfl⟩
end Go.Proofs.YtfafidholldjlaaDoor
/- The document's answer for the rounds: Schedule. -/
set_option linter.unusedVariables false
set_option linter.unusedSimpArgs false
namespace Go.Proofs.YtfafidholldjlaaDoor
open Go.RowKit
attribute [local go_sem] setCell_twice
def wordVals (s : ByteArray) (t : Nat) : List Value := (List.range t).map fun k => Value.int .i64 (Sha.word (byteAt s) k : Nat)
theorem wordVals_succ (s : ByteArray) (t : Nat) : wordVals s (t + 1) = wordVals s t ++ [.int .i64 ((Sha.word (byteAt s) t : Nat) : Int)] := by
  unfold wordVals
  rw [List.range_succ, List.map_append]
  rfl
theorem wordVals_get (s : ByteArray) (t k : Nat) (h : k < t) : (wordVals s t)[k]? = some (.int .i64 (Sha.word (byteAt s) k : Nat)) := by simp [wordVals, h]
theorem index_at (s : ByteArray) (i : Int) (k : Nat) (h : i = (k : Int)) (hk : k < s.size) (W : World) : (Instr.index 9 (.string s) (.int .i64 i)).run Tryd.prog W = .ok (.int .u8 (byteAt s k : Nat)) W := by
  subst h
  rw [run_index_string (P := Tryd.prog) W 9 s .i64 (k : Int) Tryd.underlying9, dif_pos (by omega)]
  have h' : k < s.data.toList.length := by simpa using hk
  congr 3
  unfold byteAt
  rw [List.getD_eq_getElem?_getD, List.getElem?_eq_getElem h']
  simp
  rfl
theorem ref_turn_lit (x n : Nat) (ni : Int) (hn : ni = (n : Int)) (hx : x < 4294967296) (h1 : 1 ≤ n) (h2 : n ≤ 31) (w : World) :
    Calls Tryd.prog 64 #[.int .i64 (x : Int), .int .i64 ni] w fun e w' => e = .returned (.int .i64 ((Sha.rr x n : Nat) : Int)) ∧ ∃ m, w' = w.drewN m := by
  subst hn
  exact ref_turn x n hx h1 h2 w
theorem ref_xor_int (a b c : Nat) (ci : Int) (h : ci = (c : Int)) (ha : a < 4294967296) (hb : b < 4294967296) (hc : c < 4294967296) (w : World) :
    Calls Tryd.prog 63 #[.int .i64 (a : Int), .int .i64 (b : Int), .int .i64 ci] w fun e w' => e = .returned (.int .i64 (((a ^^^ b) ^^^ c : Nat) : Int)) ∧ w = w' := by
  subst h
  exact ref_xor a b c ha hb hc w
theorem turned2 (x a b : Nat) : Sha.turned x [a, b] = Sha.rr x a ^^^ Sha.rr x b := by
  unfold Sha.turned
  simp only [List.map_cons, List.map_nil, List.foldl_cons, List.foldl_nil, Nat.zero_xor]
theorem turned3 (x a b c : Nat) : Sha.turned x [a, b, c] = (Sha.rr x a ^^^ Sha.rr x b) ^^^ Sha.rr x c := by
  unfold Sha.turned
  simp only [List.map_cons, List.map_nil, List.foldl_cons, List.foldl_nil, Nat.zero_xor]
theorem sig0_eq (x : Nat) : (Sha.rr x 7 ^^^ Sha.rr x 18) ^^^ (x / 8) = Sha.sig0 x := by
  rw [← turned2]; rfl
theorem sig1_eq (x : Nat) : (Sha.rr x 17 ^^^ Sha.rr x 19) ^^^ (x / 1024) = Sha.sig1 x := by
  rw [← turned2]; rfl
theorem word_xor2 (a b : Nat) (ha : a < 4294967296) (hb : b < 4294967296) : a ^^^ b < 4294967296 := Nat.xor_lt_two_pow (n := 32) ha hb
theorem sig_a (x : Nat) (hx : x < 4294967296) : Sha.turned x [7, 18] < 4294967296 := Sha.turned_lt hx (by intro k hk; simp at hk; omega)
theorem sig_b (x : Nat) (hx : x < 4294967296) : Sha.turned x [17, 19] < 4294967296 := Sha.turned_lt hx (by intro k hk; simp at hk; omega)
theorem sig_c (x : Nat) (hx : x < 4294967296) : x / 8 < 4294967296 := by omega
theorem sig_d (x : Nat) (hx : x < 4294967296) : x / 1024 < 4294967296 := by omega
theorem sig_e (x : Nat) (hx : x < 4294967296) : Sha.turned x [7, 18] ^^^ (x / 8) < 4294967296 := word_xor2 _ _ (sig_a x hx) (sig_c x hx)
theorem sig_f (x : Nat) (hx : x < 4294967296) : Sha.turned x [17, 19] ^^^ (x / 1024) < 4294967296 := word_xor2 _ _ (sig_b x hx) (sig_d x hx)
theorem sig0_lt (x : Nat) (hx : x < 4294967296) : Sha.sig0 x < 4294967296 := sig_e x hx
theorem sig1_lt (x : Nat) (hx : x < 4294967296) : Sha.sig1 x < 4294967296 := sig_f x hx
set_option maxRecDepth 100000 in
set_option maxHeartbeats 4000000 in
theorem ref_schedule_ok (s : ByteArray) (hs : s.size = 64) (w : World) :
    Calls Tryd.prog 26 #[.string s] w fun e w' => ∃ g cap, e = .returned (.tuple #[.slice (some ⟨g, 0, none⟩) 64 cap, .int .i64 0]) ∧ w.heap.size ≤ g ∧ g < w'.heap.size ∧
      (∀ k, k < 64 → w'.cell? ⟨g, k, none⟩ = some (.int .i64 (Sha.word (byteAt s) k : Nat))) ∧ Below w.heap.size w w' := by
  have Hs := Lib.hid hs
  have hb : ((s.size : Int) != 64) = false := by simp [hs]
  obtain ⟨i0, hi, hz0, hz1, hz2⟩ := info_parts info3
  have Hi := Lib.hid hi
  have Hz0 := Lib.hid hz0
  have Hz1 := Lib.hid hz1
  have Hz2 := Lib.hid hz2
  clear hs hi hz0 hz1 hz2
  go_enter Tryd.func26, Tryd.ntmps26
  go_wp2_with fail
  clear hb
  go_loopw [4, 5] (fun v i W => ∃ t : Nat, t ≤ 16 ∧ i = .int .i64 ((4 * t : Nat) : Int) ∧ W.ownsRow w.heap.size 3 1 v t (wordVals s t) ∧ Below w.heap.size w W) (fun _ i _ => 64 - (intOf i).toNat)
  case atStart => exact ⟨0, by omega, rfl, World.ownsRow_nil _ _ _ _, Below.refl _ _⟩
  case round =>
    obtain ⟨t, ht, rfl, hrow, hbl⟩ := hrel
    by_cases hlt : t < 16
    · obtain ⟨k, hk⟩ : ∃ k, 4 * t = k := ⟨_, rfl⟩
      rw [hk]
      have c0 : (0 : Int) ≤ (k : Int) := by omega
      have c1 : (k : Int) < 64 := by omega
      have q0 := fun W => index_at s (k : Int) k rfl (by have := Hs.out; omega) W
      have q1 := fun W => index_at s ((k : Int) + 1) (k + 1) (by omega) (by have := Hs.out; omega) W
      have q2 := fun W => index_at s ((k : Int) + 2) (k + 2) (by omega) (by have := Hs.out; omega) W
      have q3 := fun W => index_at s ((k : Int) + 3) (k + 3) (by omega) (by have := Hs.out; omega) W
      have b0 := byteAt_lt s k
      have b1 := byteAt_lt s (k + 1)
      have b2 := byteAt_lt s (k + 2)
      have b3 := byteAt_lt s (k + 3)
      obtain ⟨V, hV⟩ : ∃ V, Sha.word (byteAt s) t = V := ⟨_, rfl⟩
      have hV2 : ((byteAt s k * 256 + byteAt s (k + 1)) * 256 + byteAt s (k + 2)) * 256 + byteAt s (k + 3) = V := by rw [← hV, ← hk]; simp [Sha.word, hlt, Sha.be]
      have HV := Lib.hid hV
      generalize byteAt s k = x0 at q0 b0 hV2
      generalize byteAt s (k + 1) = x1 at q1 b1 hV2
      generalize byteAt s (k + 2) = x2 at q2 b2 hV2
      generalize byteAt s (k + 3) = x3 at q3 b3 hV2
      obtain ⟨y0, hy0⟩ : ∃ y, 16777216 * x0 = y := ⟨_, rfl⟩
      obtain ⟨y1, hy1⟩ : ∃ y, 65536 * x1 = y := ⟨_, rfl⟩
      obtain ⟨y2, hy2⟩ : ∃ y, 256 * x2 = y := ⟨_, rfl⟩
      obtain ⟨z1, hz1⟩ : ∃ y, y0 + y1 = y := ⟨_, rfl⟩
      obtain ⟨z2, hz2⟩ : ∃ y, z1 + y2 = y := ⟨_, rfl⟩
      have hbs1 : w.heap.size ≤ wr.heap.size + 1 := Nat.le_succ_of_le hbl.size
      have hn1 : t + 1 ≤ maxLen := by unfold maxLen; omega
      have hn2 : (t + 1) * 8 ≤ 140737488355328 := by omega
      have e0 : IntKind.i64.wrap (x0 : Int) = (x0 : Int) := IntWalk.i64_in _ (by omega)
      have e1 : IntKind.i64.wrap (x1 : Int) = (x1 : Int) := IntWalk.i64_in _ (by omega)
      have e2 : IntKind.i64.wrap (x2 : Int) = (x2 : Int) := IntWalk.i64_in _ (by omega)
      have e3 : IntKind.i64.wrap (x3 : Int) = (x3 : Int) := IntWalk.i64_in _ (by omega)
      have m0 : IntKind.i64.wrap (16777216 * (x0 : Int)) = (y0 : Int) := by rw [IntWalk.i64_in _ (by omega)]; omega
      have m1 : IntKind.i64.wrap (65536 * (x1 : Int)) = (y1 : Int) := by rw [IntWalk.i64_in _ (by omega)]; omega
      have m2 : IntKind.i64.wrap (256 * (x2 : Int)) = (y2 : Int) := by rw [IntWalk.i64_in _ (by omega)]; omega
      have a1 : IntKind.i64.wrap ((y0 : Int) + (y1 : Int)) = (z1 : Int) := by rw [IntWalk.i64_in _ (by omega)]; omega
      have a2 : IntKind.i64.wrap ((z1 : Int) + (y2 : Int)) = (z2 : Int) := by rw [IntWalk.i64_in _ (by omega)]; omega
      have a3 : IntKind.i64.wrap ((z2 : Int) + (x3 : Int)) = (V : Int) := by rw [IntWalk.i64_in _ (by omega)]; omega
      have s1 : IntKind.i64.wrap ((k : Int) + 1) = (k : Int) + 1 := IntWalk.i64_in _ (by omega)
      have s2 : IntKind.i64.wrap ((k : Int) + 2) = (k : Int) + 2 := IntWalk.i64_in _ (by omega)
      have s3 : IntKind.i64.wrap ((k : Int) + 3) = (k : Int) + 3 := IntWalk.i64_in _ (by omega)
      have Hk := Lib.hid hk
      have Hrow := Lib.hid hrow
      have Hbl := Lib.hid hbl
      clear hk hrow hbl hV hV2 hy0 hy1 hy2 hz1 hz2
      go_wp2_with fail
      go_region_held3 (fun w' => True) (first | trivial | go_keep) ((refine step_append_lies _ (by rfl) _ _ _ (by rfl) w.heap.size 3 i0 _ 1 8 Tryd.underlying26 Hi.out Hz0.out Hz1.out Hz2.out rfl (by decide) u4 t (wordVals s t) (by rfl) ((Hrow.out.alloc _).drew) ⟨wr.heap.size, 0, none⟩ 1 1 [.int .i64 (V : Int)] (by rfl) (by rfl) (World.news_of_block (cs := #[.int .i64 (V : Int)]) (t := 3) (fr := (0, 0)) (heap_alloc_new wr _)) (by simp [Value.oneCell']) (by decide) hn1 hn2 (by simpa using hbs1) (wr.heap.size + 1) (by simp) ?_; intro gg cap w1 hown1 hgrow hat hlt1; have Hown1 := Lib.hid hown1; have Hgrow := Lib.hid hgrow; have Hlt1 := Lib.hid hlt1; clear hown1 hgrow hat hlt1))
      clear e0 e1 e2 e3 m0 m1 m2 a1 a2 a3 s1 s2 s3 q0 q1 q2 q3
      go_wp2_with fail
      all_goals
        go_roundw
        case rel =>
          refine ⟨t + 1, by omega, by rw [← Hk.out]; go_num, ?_, Hbl.out.trans ?_⟩
          · rw [wordVals_succ, HV.out]; exact Hown1.out
          · exact (((Far.refl (fun j => w.heap.size ≤ j) wr).alloc _).drew.grown Hgrow.out (fun j e _ => (Hrow.out.lt j e).1)).to_below Hbl.out.size (fun i hi hc => by omega)
        case measure => simp [intOf]; omega
    · obtain rfl : t = 16 := by omega
      have e64 : ((4 * 16 : Nat) : Int) = 64 := rfl
      rw [e64]
      clear e64
      have Hrow := Lib.hid hrow
      have Hbl := Lib.hid hbl
      clear hrow hbl
      go_wp2_with fail
      go_loopw [4, 6, 7, 8, 9, 10] (fun v i _ _ _ _ W => ∃ t : Nat, 16 ≤ t ∧ t ≤ 64 ∧ i = .int .i64 t ∧ W.ownsRow w.heap.size 3 1 v t (wordVals s t) ∧ Below w.heap.size w W) (fun _ i _ _ _ _ _ => 64 - (intOf i).toNat)
      case atStart => exact ⟨16, by omega, by omega, rfl, Hrow.out, Hbl.out⟩
      case round =>
        clear Hrow Hbl
        obtain ⟨t, ht16, ht, rfl, hrow, hbl⟩ := hrel
        obtain ⟨t', rfl⟩ : ∃ t', t = t' + 1 := ⟨t - 1, by omega⟩
        obtain ⟨g, cap, rfl, hg1, hg2⟩ := ownsRow_form hrow
        generalize t' + 1 = t at *
        by_cases hlt : t < 64
        · have c16 := ownsRow_cell hrow (t - 16) _ (wordVals_get s t (t - 16) (by omega))
          have c15 := ownsRow_cell hrow (t - 15) _ (wordVals_get s t (t - 15) (by omega))
          have c7 := ownsRow_cell hrow (t - 7) _ (wordVals_get s t (t - 7) (by omega))
          have c2 := ownsRow_cell hrow (t - 2) _ (wordVals_get s t (t - 2) (by omega))
          have hw := Sha.word_16 (byteAt s) t ht16
          have l16 := Sha.word_lt (byteAt s) (byteAt_lt s) (t - 16)
          have l15 := Sha.word_lt (byteAt s) (byteAt_lt s) (t - 15)
          have l7 := Sha.word_lt (byteAt s) (byteAt_lt s) (t - 7)
          have l2 := Sha.word_lt (byteAt s) (byteAt_lt s) (t - 2)
          obtain ⟨V, hV⟩ : ∃ V, Sha.word (byteAt s) t = V := ⟨_, rfl⟩
          rw [hV] at hw
          have HV := Lib.hid hV
          generalize Sha.word (byteAt s) (t - 16) = x16 at c16 hw l16
          generalize Sha.word (byteAt s) (t - 15) = x15 at c15 hw l15
          generalize Sha.word (byteAt s) (t - 7) = x7 at c7 hw l7
          generalize Sha.word (byteAt s) (t - 2) = x2 at c2 hw l2
          have i15a : (0 : Int) ≤ (t : Int) - 15 := by omega
          have i15c : (15 : Int) ≤ (t : Int) := by omega
          have i15b : (t : Int) - 15 < (t : Int) := by omega
          have i2a : (0 : Int) ≤ (t : Int) - 2 := by omega
          have i2c : (2 : Int) ≤ (t : Int) := by omega
          have i2b : (t : Int) - 2 < (t : Int) := by omega
          have ti : (t : Int) < 64 := by omega
          have d15 : ((x15 : Int) / 8) = ((x15 / 8 : Nat) : Int) := by omega
          have d2 : ((x2 : Int) / 1024) = ((x2 / 1024 : Nat) : Int) := by omega
          have D15 := Lib.hid d15
          have D2 := Lib.hid d2
          have Hrow := Lib.hid hrow
          have Hbl := Lib.hid hbl
          have Hw := Lib.hid hw
          have C16 := Lib.hid c16
          have C7 := Lib.hid c7
          clear hV hw hrow hbl d15 d2 c16 c7
          go_wp2_with fail
          refine (ref_turn_lit x15 7 7 rfl l15 (by decide) (by decide) _).mono ?_
          rintro e wa ⟨rfl, m1, rfl⟩
          go_wp2_with fail
          refine (ref_turn_lit x15 18 18 rfl l15 (by decide) (by decide) _).mono ?_
          rintro e wa ⟨rfl, m2, rfl⟩
          go_wp2_with fail
          refine (ref_xor_int _ _ (x15 / 8) _ D15.out (Sha.rr_lt l15 (by decide) (by decide)) (Sha.rr_lt l15 (by decide) (by decide)) (Nat.lt_of_le_of_lt (Nat.div_le_self _ _) l15) _).mono ?_
          rintro e wa ⟨rfl, rfl⟩
          rw [sig0_eq]
          go_wp2_with fail
          refine (ref_turn_lit x2 17 17 rfl l2 (by decide) (by decide) _).mono ?_
          rintro e wa ⟨rfl, m3, rfl⟩
          go_wp2_with fail
          refine (ref_turn_lit x2 19 19 rfl l2 (by decide) (by decide) _).mono ?_
          rintro e wa ⟨rfl, m4, rfl⟩
          go_wp2_with fail
          refine (ref_xor_int _ _ (x2 / 1024) _ D2.out (Sha.rr_lt l2 (by decide) (by decide)) (Sha.rr_lt l2 (by decide) (by decide)) (Nat.lt_of_le_of_lt (Nat.div_le_self _ _) l2) _).mono ?_
          rintro e wa ⟨rfl, rfl⟩
          rw [sig1_eq]
          go_upto_region 15 with (fail)
          generalize hXe : World.drewN _ _ = X
          have hF : Far NoneD wr X := by rw [← hXe]; repeat (first | exact Far.refl _ _ | refine Far.drewN ?_ _)
          have hrX := ownsRow_far Hrow.out hF (fun _ _ _ h => h)
          have hc16 := (hF.cell (p := ⟨g, t - 16, none⟩) hg2 (fun h => h)).trans C16.out
          have hc7 := (hF.cell (p := ⟨g, t - 7, none⟩) hg2 (fun h => h)).trans C7.out
          have HrX := Lib.hid hrX
          have hlX : wr.heap.size ≤ X.heap.size := hF.size
          have HF := Lib.hid hF
          have l0 := sig0_lt x15 l15
          have l1 := sig1_lt x2 l2
          obtain ⟨g0, hg0⟩ : ∃ y, Sha.sig0 x15 = y := ⟨_, rfl⟩
          obtain ⟨g1', hg1'⟩ : ∃ y, Sha.sig1 x2 = y := ⟨_, rfl⟩
          have hw := Hw.out
          rw [hg0] at l0 hw ⊢
          rw [hg1'] at l1 hw ⊢
          obtain ⟨u1, hu1⟩ : ∃ y, x16 + g0 = y := ⟨_, rfl⟩
          obtain ⟨u2, hu2⟩ : ∃ y, u1 + x7 = y := ⟨_, rfl⟩
          obtain ⟨u3, hu3⟩ : ∃ y, u2 + g1' = y := ⟨_, rfl⟩
          have hV3 : V = u3 % 4294967296 := by rw [hw, ← hu3, ← hu2, ← hu1]
          have hbs1 : w.heap.size ≤ X.heap.size + 1 := Nat.le_succ_of_le (Nat.le_trans Hbl.out.size hlX)
          have hn1 : t + 1 ≤ maxLen := by unfold maxLen; omega
          have hn2 : (t + 1) * 8 ≤ 140737488355328 := by omega
          have i16a : (0 : Int) ≤ (t : Int) - 16 := by omega
          have i16b : (t : Int) - 16 < (t : Int) := by omega
          have i7a : (0 : Int) ≤ (t : Int) - 7 := by omega
          have i7b : (t : Int) - 7 < (t : Int) := by omega
          have i7c : (7 : Int) ≤ (t : Int) := by omega
          have i16c : (16 : Int) ≤ (t : Int) := by omega
          have n16 : ((t : Int) - 16).toNat = t - 16 := by omega
          have n7 : ((t : Int) - 7).toNat = t - 7 := by omega
          have w16 : IntKind.i64.wrap ((t : Int) - 16) = (t : Int) - 16 := IntWalk.i64_in _ (by omega)
          have w7 : IntKind.i64.wrap ((t : Int) - 7) = (t : Int) - 7 := IntWalk.i64_in _ (by omega)
          have f1 : IntKind.i64.wrap ((x16 : Int) + (g0 : Int)) = (u1 : Int) := by rw [IntWalk.i64_in _ (by omega)]; omega
          have f2 : IntKind.i64.wrap ((u1 : Int) + (x7 : Int)) = (u2 : Int) := by rw [IntWalk.i64_in _ (by omega)]; omega
          have f3 : IntKind.i64.wrap ((u2 : Int) + (g1' : Int)) = (u3 : Int) := by rw [IntWalk.i64_in _ (by omega)]; omega
          have f4 : (u3 : Int).tmod 4294967296 = (V : Int) := by rw [hV3, Int.tmod_eq_emod_of_nonneg (by omega)]; simp
          have f4b : (u3 : Int) % 4294967296 = (V : Int) := by rw [hV3]; simp
          clear hXe hF hrX hw hu1 hu2 hu3 hV3 hg0 hg1' i15a i15b i15c i2a i2b i2c c15 c2
          go_region_law (first | ((refine step_append_lies _ (by rfl) _ _ _ (by rfl) w.heap.size 3 i0 _ 1 8 Tryd.underlying26 Hi.out Hz0.out Hz1.out Hz2.out rfl (by decide) (.slice (some ⟨g, 0, none⟩) t cap) t (wordVals s t) (by rfl) ((HrX.out.alloc _).drew) ⟨X.heap.size, 0, none⟩ 1 1 [.int .i64 (V : Int)] (by rfl) (by rfl) (World.news_of_block (cs := #[.int .i64 (V : Int)]) (t := 3) (fr := (0, 0)) (heap_alloc_new X _)) (by simp [Value.oneCell']) (by decide) hn1 hn2 (by simpa using hbs1) (X.heap.size + 1) (by simp) ?_; intro gg cap2 w1 hown1 hgrow hat hlt1; have Hown1 := Lib.hid hown1; have Hgrow := Lib.hid hgrow; have Hlt1 := Lib.hid hlt1; clear hown1 hgrow hat hlt1)))
          all_goals clear f1 f2 f3 f4 f4b w16 w7 n16 n7 i16a i16b i16c i7a i7b i7c hc16 hc7
          all_goals go_wp2_with fail
          all_goals
            go_roundw
            case rel =>
              refine ⟨t + 1, by omega, by omega, by go_num, ?_, Hbl.out.trans ?_⟩
              · rw [wordVals_succ, HV.out]; exact Hown1.out
              · exact (((HF.out.mono (fun j _ h => h.elim)).alloc _).drew.grown Hgrow.out (fun j e _ => (Hrow.out.lt j e).1)).to_below (D := fun j => w.heap.size ≤ j) Hbl.out.size (fun i hi hc => by omega)
            case measure => simp [intOf]; omega
        · obtain rfl : t = 64 := by omega
          have Hrow := Lib.hid hrow
          have Hbl := Lib.hid hbl
          clear hrow hbl
          go_wp2_with fail
          exact bodyPost_ret (v := .tuple #[.slice (some ⟨g, 0, none⟩) 64 cap, .int .i64 0]) (by simp [results, Tryd.results26, go_sem]) rfl ⟨g, cap, rfl, hg1, hg2, fun k hk => ownsRow_cell Hrow.out k _ (wordVals_get s 64 k hk), Hbl.out⟩
theorem ref_schedule_bad (s : ByteArray) (hs : s.size ≠ 64) (w : World) :
    Calls Tryd.prog 26 #[.string s] w fun e w' => e = .returned (.tuple #[.slice none 0 0, .int .i64 10]) ∧ w = w' := by
  have hb : ((s.size : Int) != 64) = true := by simp; omega
  clear hs
  go_enter Tryd.func26, Tryd.ntmps26
  go_wp2_with fail
  exact bodyPost_ret (v := .tuple #[.slice none 0 0, .int .i64 10]) (by simp [results, Tryd.results26, go_sem]) rfl ⟨rfl, rfl⟩
end Go.Proofs.YtfafidholldjlaaDoor
