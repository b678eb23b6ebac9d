/- A message's end, of package digest. -/
import Derived.Test.YtfafidholldjlaaDoorE2
import Derived.Test.YtfafidholldjlaaDoorDspec
import Derived.Test.YtfafidholldjlaaDoorA13
import Derived.Test.YtfafidholldjlaaDoorP1
import Derived.Lib.AppendZeros
set_option linter.unusedVariables false
set_option linter.unusedSimpArgs false
namespace Go.Proofs.YtfafidholldjlaaDoor
open Go.RowKit
theorem append_zeros (W : World) (g z : Nat) (hz : 0 < z) (hz2 : z ≤ 63) (ty : TypeId) (hg : W.heap[g]? = some (.cells #[.int .u8 128] 5 (0, 0))) :
    (Builtin.append_ #[40, 3] ty #[.slice (some ⟨g, 0, none⟩) 1 1, .int .i64 z]).run Tryd.prog W =
      .ok (.slice (some ⟨W.heap.size, 0, none⟩) (1 + z) (grownCap W (1 + z) 1 5))
        (W.drew.alloc (.cells ((#[.int .u8 128] ++ Builtin.zeroCells #[.int .u8 0] z) ++ Builtin.zeroCells #[.int .u8 0] (grownCap W (1 + z) 1 5 - (1 + z))) 5)) := by
  obtain ⟨i, hi, hz0, hz1, hb1⟩ := info_parts info5
  have hw : IntKind.i64.wrap (z : Int) = z := by rw [IntKind.wrap_i64]; omega
  have hn : ¬ (1 + z ≤ 1) := by omega
  have hz' : ¬ z = 0 := by omega
  have hns : ¬ (z * i.size = 0) := by rw [hz1]; omega
  have hneg : ¬ ((z : Int) < 0) := by omega
  have h63' : ¬ (9223372036854775807 < ((1 : Int) + (z : Int))) := by omega
  have hlt : Builtin.nextslicecap (1 + z) 1 * i.bytes ≤ 281474976710656 := growslice_fits (by omega) (by rw [hb1]; omega)
  have h48' : ¬ (281474976710656 < Builtin.nextslicecap (1 + z) 1 * i.bytes) := by omega
  have h48i : ¬ (281474976710656 < (z : Int) * (i.bytes : Int)) := by rw [hb1]; omega
  have hfo := run_firstCells_some (P := Tryd.prog) W.drew i.size 1 ⟨g, 0, none⟩ 1 1 [.int .u8 128] (by simp [hz1]) (by
    intro j v hj
    match j, hj with
    | 0, hj => simp at hj; subst hj; rw [Addr.add_lit]; exact cell_of hg 0
    | j + 1, hj => simp at hj)
  rw [hz1] at hfo hns
  simp [Builtin.append_, run_underlying Tryd.underlying40, run_underlying Tryd.underlying3, sizeOf, typeInfo, zeroValue, hi, hz0, asInt, asIntOf, hw, hn, hz', hneg, hns, h63', h48', h48i, Question.forced, hfo, newRow, grownCap, hz1, Value.cells]
theorem append_zero (W : World) (g : Nat) (ty : TypeId) (hg : W.heap[g]? = some (.cells #[.int .u8 128] 5 (0, 0))) :
    (Builtin.append_ #[40, 3] ty #[.slice (some ⟨g, 0, none⟩) 1 1, .int .i64 0]).run Tryd.prog W = .ok (.slice (some ⟨g, 0, none⟩) 1 1) W := by
  obtain ⟨i, hi, hz0, hz1, hb1⟩ := info_parts info5
  have hw : IntKind.i64.wrap 0 = 0 := rfl
  simp [Builtin.append_, run_underlying Tryd.underlying40, run_underlying Tryd.underlying3, sizeOf, typeInfo, zeroValue, hi, hz0, asInt, asIntOf, hw, storeCells]
theorem append_end (W : World) (g z base : Nat) (zi : Int) (hzi : zi = z) (hz2 : z ≤ 63) (ty : TypeId) (hg : W.heap[g]? = some (.cells #[.int .u8 128] 5 (0, 0))) (hb : base ≤ g) :
    ∃ v' W', (Builtin.append_ #[40, 3] ty #[.slice (some ⟨g, 0, none⟩) 1 1, .int .i64 zi]).run Tryd.prog W = .ok v' W' ∧ W'.ownsRow base 5 1 v' (1 + z) (byteCells (128 :: List.replicate z 0)) ∧ W.grownBy W' (some g) := by
  subst hzi
  have hgl := lt_of_heap hg
  by_cases h0 : z = 0
  · subst h0
    refine ⟨_, _, append_zero W g ty hg, ⟨by simp [byteCells], .inr ⟨g, 1, _, rfl, hb, hg, by omega, by decide, by simp, by simp [byteCells]⟩⟩, ⟨rfl, rfl, rfl, Nat.le_refl _, fun _ _ _ => rfl⟩⟩
  · refine ⟨_, _, append_zeros W g z (by omega) hz2 ty hg, ⟨by simp [byteCells]; omega, .inr ⟨W.heap.size, _, _, rfl, by omega, heap_alloc_new W.drew _, grownCap_ge W (1 + z) 1 5, grownCap_le_maxLen W (1 + z) 1 5 (by unfold maxLen; omega), ?_, ?_⟩⟩, ⟨rfl, rfl, rfl, by simp, fun k hk _ => heap_alloc_old W.drew _ hk⟩⟩
    · have := grownCap_ge W (1 + z) 1 5
      simp [size_zeroCells]
      omega
    · have hzc : (Builtin.zeroCells #[Value.int .u8 0] z).toList = List.replicate z (.int .u8 0) := by
        apply List.ext_getElem
        · simp [size_zeroCells]
        · intro i h1 h2
          simp [Builtin.zeroCells, Nat.mod_one]
      simp only [Array.toList_append, hzc, Nat.mul_one]
      rw [List.take_append_of_le_length (by simp; omega), List.take_of_length_le (by simp; omega)]
      simp [byteCells]
set_option maxRecDepth 100000 in
set_option maxHeartbeats 4000000 in
theorem end_any (n : Nat) (hn : n ≤ 100000) (w : World) :
    Calls Tryd.prog 72 #[.int .i64 (n : Int)] w fun e w' => e = .returned (.string ⟨(Sha.endOf n).toArray⟩) ∧ Below w.heap.size w w' := by
  obtain ⟨i0, hi, hz0, hz1, hz2⟩ := info_parts info5
  have Hi := Lib.hid hi
  have Hz0 := Lib.hid hz0
  have Hz1 := Lib.hid hz1
  have Hz2 := Lib.hid hz2
  clear hi hz0 hz1 hz2
  have hz : ((119 - (n : Int) % 64) % 64) = ((Sha.zeros n : Nat) : Int) := by unfold Sha.zeros; omega
  have hz63 : Sha.zeros n ≤ 63 := by unfold Sha.zeros; omega
  obtain ⟨z, hze⟩ : ∃ z, Sha.zeros n = z := ⟨_, rfl⟩
  rw [hze] at hz hz63
  have HZ := Lib.hid hz
  have HZE := Lib.hid hze
  clear hz hze
  obtain ⟨v0, W0, hr, o0, hgr⟩ := append_end (w.alloc (.cells #[.int .u8 128] 5)) w.heap.size z w.heap.size _ HZ.out hz63 40 (alloc_heap_at _ _ _ rfl) (Nat.le_refl _)
  obtain ⟨g0, cap0, rfl, hg0, hl0⟩ := ownsRow_form (n := z) (by rw [Nat.add_comm]; exact o0)
  have hf0 : Below w.heap.size w W0 := (((Far.refl (fun k => w.heap.size ≤ k) w).alloc _).grown hgr (fun k e h => by cases e; exact Nat.le_refl _)).to_below (Nat.le_refl _) (fun i h1 h2 => by omega)
  have hn0 : w.heap.size ≤ W0.heap.size := hf0.size
  rw [Nat.add_comm] at o0 hr
  have HR := Lib.hid hr
  have O0 := Lib.hid o0
  have F0 := Lib.hid hf0
  clear hr o0 hf0 hgr
  go_enter Tryd.func72, Tryd.ntmps72
  go_wp2_with (at_builtin; refine Lib.wpList_append_run _ rfl _ _ _ _ rfl _ _ rfl rfl _ _ HR.out ?_)
  have hm : n ≤ 100000 := hn
  have q0 : (0 : Int) ≤ (n : Int) := by omega
  have q1 : (n : Int) ≤ 100000 := by omega
  refine wp_loop_rounds 9 ?_
  rw [rounds_succ]
  go_wp2_with (at_builtin; refine wpList_append_own _ rfl (.tmp 17) (.tmp 24) 40 rfl w.heap.size 5 i0 (.int .u8 0) 1 1 Tryd.underlying40 Hi.out Hz0.out Hz1.out Hz2.out rfl (by decide) _ _ _ rfl (O0.out.alloc _) ⟨W0.heap.size, 0, none⟩ 1 1 [.int .u8 (8 * (n : Int) / 72057594037927936)] rfl rfl (cell_one_new _ _ _) (by simp [Value.oneCell']) (by unfold maxLen; omega) (by omega) (Nat.le_trans hn0 (by simp)) ?_; intro v1 W1 o1 hgrow _; obtain ⟨g1, cap1, rfl, hg1, hl1⟩ := ownsRow_form o1; have hn1 : w.heap.size ≤ W1.heap.size := (by omega); have hrl := O0.out.lt; have hf1 := F0.out.trans (((Below.refl w.heap.size W0).alloc hn0 _).grown hgrow (Nat.le_trans hn0 (by simp)) (fun k e => (hrl k e).1)); have O1 := Lib.hid o1; have F1 := Lib.hid hf1; clear o1 hf1 hgrow hrl)
  rw [rounds_succ]
  go_wp2_with (at_builtin; refine wpList_append_own _ rfl (.tmp 17) (.tmp 24) 40 rfl w.heap.size 5 i0 (.int .u8 0) 1 1 Tryd.underlying40 Hi.out Hz0.out Hz1.out Hz2.out rfl (by decide) _ _ _ rfl (O1.out.alloc _) ⟨W1.heap.size, 0, none⟩ 1 1 [.int .u8 (8 * (n : Int) / 281474976710656)] rfl rfl (cell_one_new _ _ _) (by simp [Value.oneCell']) (by unfold maxLen; omega) (by omega) (Nat.le_trans hn1 (by simp)) ?_; intro v2 W2 o2 hgrow _; obtain ⟨g2, cap2, rfl, hg2, hl2⟩ := ownsRow_form o2; have hn2 : w.heap.size ≤ W2.heap.size := (by omega); have hrl := O1.out.lt; have hf2 := F1.out.trans (((Below.refl w.heap.size W1).alloc hn1 _).grown hgrow (Nat.le_trans hn1 (by simp)) (fun k e => (hrl k e).1)); have O2 := Lib.hid o2; have F2 := Lib.hid hf2; clear o2 hf2 hgrow hrl)
  rw [rounds_succ]
  go_wp2_with (at_builtin; refine wpList_append_own _ rfl (.tmp 17) (.tmp 24) 40 rfl w.heap.size 5 i0 (.int .u8 0) 1 1 Tryd.underlying40 Hi.out Hz0.out Hz1.out Hz2.out rfl (by decide) _ _ _ rfl (O2.out.alloc _) ⟨W2.heap.size, 0, none⟩ 1 1 [.int .u8 (8 * (n : Int) / 1099511627776)] rfl rfl (cell_one_new _ _ _) (by simp [Value.oneCell']) (by unfold maxLen; omega) (by omega) (Nat.le_trans hn2 (by simp)) ?_; intro v3 W3 o3 hgrow _; obtain ⟨g3, cap3, rfl, hg3, hl3⟩ := ownsRow_form o3; have hn3 : w.heap.size ≤ W3.heap.size := (by omega); have hrl := O2.out.lt; have hf3 := F2.out.trans (((Below.refl w.heap.size W2).alloc hn2 _).grown hgrow (Nat.le_trans hn2 (by simp)) (fun k e => (hrl k e).1)); have O3 := Lib.hid o3; have F3 := Lib.hid hf3; clear o3 hf3 hgrow hrl)
  rw [rounds_succ]
  go_wp2_with (at_builtin; refine wpList_append_own _ rfl (.tmp 17) (.tmp 24) 40 rfl w.heap.size 5 i0 (.int .u8 0) 1 1 Tryd.underlying40 Hi.out Hz0.out Hz1.out Hz2.out rfl (by decide) _ _ _ rfl (O3.out.alloc _) ⟨W3.heap.size, 0, none⟩ 1 1 [.int .u8 (8 * (n : Int) / 4294967296)] rfl rfl (cell_one_new _ _ _) (by simp [Value.oneCell']) (by unfold maxLen; omega) (by omega) (Nat.le_trans hn3 (by simp)) ?_; intro v4 W4 o4 hgrow _; obtain ⟨g4, cap4, rfl, hg4, hl4⟩ := ownsRow_form o4; have hn4 : w.heap.size ≤ W4.heap.size := (by omega); have hrl := O3.out.lt; have hf4 := F3.out.trans (((Below.refl w.heap.size W3).alloc hn3 _).grown hgrow (Nat.le_trans hn3 (by simp)) (fun k e => (hrl k e).1)); have O4 := Lib.hid o4; have F4 := Lib.hid hf4; clear o4 hf4 hgrow hrl)
  rw [rounds_succ]
  go_wp2_with (at_builtin; refine wpList_append_own _ rfl (.tmp 17) (.tmp 24) 40 rfl w.heap.size 5 i0 (.int .u8 0) 1 1 Tryd.underlying40 Hi.out Hz0.out Hz1.out Hz2.out rfl (by decide) _ _ _ rfl (O4.out.alloc _) ⟨W4.heap.size, 0, none⟩ 1 1 [.int .u8 (8 * (n : Int) / 16777216)] rfl rfl (cell_one_new _ _ _) (by simp [Value.oneCell']) (by unfold maxLen; omega) (by omega) (Nat.le_trans hn4 (by simp)) ?_; intro v5 W5 o5 hgrow _; obtain ⟨g5, cap5, rfl, hg5, hl5⟩ := ownsRow_form o5; have hn5 : w.heap.size ≤ W5.heap.size := (by omega); have hrl := O4.out.lt; have hf5 := F4.out.trans (((Below.refl w.heap.size W4).alloc hn4 _).grown hgrow (Nat.le_trans hn4 (by simp)) (fun k e => (hrl k e).1)); have O5 := Lib.hid o5; have F5 := Lib.hid hf5; clear o5 hf5 hgrow hrl)
  rw [rounds_succ]
  go_wp2_with (at_builtin; refine wpList_append_own _ rfl (.tmp 17) (.tmp 24) 40 rfl w.heap.size 5 i0 (.int .u8 0) 1 1 Tryd.underlying40 Hi.out Hz0.out Hz1.out Hz2.out rfl (by decide) _ _ _ rfl (O5.out.alloc _) ⟨W5.heap.size, 0, none⟩ 1 1 [.int .u8 (8 * (n : Int) / 65536)] rfl rfl (cell_one_new _ _ _) (by simp [Value.oneCell']) (by unfold maxLen; omega) (by omega) (Nat.le_trans hn5 (by simp)) ?_; intro v6 W6 o6 hgrow _; obtain ⟨g6, cap6, rfl, hg6, hl6⟩ := ownsRow_form o6; have hn6 : w.heap.size ≤ W6.heap.size := (by omega); have hrl := O5.out.lt; have hf6 := F5.out.trans (((Below.refl w.heap.size W5).alloc hn5 _).grown hgrow (Nat.le_trans hn5 (by simp)) (fun k e => (hrl k e).1)); have O6 := Lib.hid o6; have F6 := Lib.hid hf6; clear o6 hf6 hgrow hrl)
  rw [rounds_succ]
  go_wp2_with (at_builtin; refine wpList_append_own _ rfl (.tmp 17) (.tmp 24) 40 rfl w.heap.size 5 i0 (.int .u8 0) 1 1 Tryd.underlying40 Hi.out Hz0.out Hz1.out Hz2.out rfl (by decide) _ _ _ rfl (O6.out.alloc _) ⟨W6.heap.size, 0, none⟩ 1 1 [.int .u8 (8 * (n : Int) / 256 % 256)] rfl rfl (cell_one_new _ _ _) (by simp [Value.oneCell']) (by unfold maxLen; omega) (by omega) (Nat.le_trans hn6 (by simp)) ?_; intro v7 W7 o7 hgrow _; obtain ⟨g7, cap7, rfl, hg7, hl7⟩ := ownsRow_form o7; have hn7 : w.heap.size ≤ W7.heap.size := (by omega); have hrl := O6.out.lt; have hf7 := F6.out.trans (((Below.refl w.heap.size W6).alloc hn6 _).grown hgrow (Nat.le_trans hn6 (by simp)) (fun k e => (hrl k e).1)); have O7 := Lib.hid o7; have F7 := Lib.hid hf7; clear o7 hf7 hgrow hrl)
  rw [rounds_succ]
  go_wp2_with (at_builtin; refine wpList_append_own _ rfl (.tmp 17) (.tmp 24) 40 rfl w.heap.size 5 i0 (.int .u8 0) 1 1 Tryd.underlying40 Hi.out Hz0.out Hz1.out Hz2.out rfl (by decide) _ _ _ rfl (O7.out.alloc _) ⟨W7.heap.size, 0, none⟩ 1 1 [.int .u8 (8 * (n : Int) % 256)] rfl rfl (cell_one_new _ _ _) (by simp [Value.oneCell']) (by unfold maxLen; omega) (by omega) (Nat.le_trans hn7 (by simp)) ?_; intro v8 W8 o8 hgrow _; obtain ⟨g8, cap8, rfl, hg8, hl8⟩ := ownsRow_form o8; have hn8 : w.heap.size ≤ W8.heap.size := (by omega); have hrl := O7.out.lt; have hf8 := F7.out.trans (((Below.refl w.heap.size W7).alloc hn7 _).grown hgrow (Nat.le_trans hn7 (by simp)) (fun k e => (hrl k e).1)); have O8 := Lib.hid o8; have F8 := Lib.hid hf8; clear o8 hf8 hgrow hrl)
  rw [rounds_succ]
  have hcells : byteCells (Sha.endOf n) = byteCells (128 :: List.replicate z 0) ++ [.int .u8 (8 * (n : Int) / 72057594037927936)] ++ [.int .u8 (8 * (n : Int) / 281474976710656)] ++ [.int .u8 (8 * (n : Int) / 1099511627776)] ++ [.int .u8 (8 * (n : Int) / 4294967296)] ++ [.int .u8 (8 * (n : Int) / 16777216)] ++ [.int .u8 (8 * (n : Int) / 65536)] ++ [.int .u8 (8 * (n : Int) / 256 % 256)] ++ [.int .u8 (8 * (n : Int) % 256)] := by
    unfold Sha.endOf
    rw [HZE.out]
    have e1 : (8 * (n : Int) / 72057594037927936) = 0 := by omega
    have e2 : (8 * (n : Int) / 281474976710656) = 0 := by omega
    have e3 : (8 * (n : Int) / 1099511627776) = 0 := by omega
    have e4 : (8 * (n : Int) / 4294967296) = 0 := by omega
    have e5 : (8 * (n : Int) / 16777216) = 0 := by omega
    have e5' : (8 * n / 16777216) % 256 = 0 := by omega
    have e6 : (8 * (n : Int) / 65536) = (((8 * n / 65536) % 256 : Nat) : Int) := by omega
    have e7 : (8 * (n : Int) / 256 % 256) = (((8 * n / 256) % 256 : Nat) : Int) := by omega
    have e8 : (8 * (n : Int) % 256) = (((8 * n) % 256 : Nat) : Int) := by omega
    rw [e1, e2, e3, e4, e5, e6, e7, e8]
    simp [byteCells, e5']
  have hlen : (Sha.endOf n).length = 1 + z + 1 + 1 + 1 + 1 + 1 + 1 + 1 + 1 := by rw [Sha.endOf_length, HZE.out]; omega
  have hx : ∀ j u, (byteCells (Sha.endOf n))[j]? = some u → W8.cell? ⟨g8, j, none⟩ = some u := by
    intro j u hj
    refine ownsRow_cell O8.out j u ?_
    rw [hcells] at hj
    exact hj
  have hcv := run_convert_bytes_back (P := Tryd.prog) W8 40 9 5 ⟨g8, 0, none⟩ cap8 (Sha.endOf n) Tryd.underlying40 Tryd.underlying5 Tryd.underlying9 (fun j hj => by
    rw [Addr.add_lit, Nat.zero_add]
    refine hx j _ ?_
    simp [byteCells, List.getElem?_eq_getElem hj])
  rw [hlen] at hcv
  clear hx hcells hlen
  go_wp2_with fail
  go_ret
  exact ⟨rfl, F8.out⟩
theorem endOk_any (n : Nat) (hn : n ≤ 100000) (w : World) :
    Calls Tryd.prog 38 #[.int .i64 (n : Int)] w fun e w' => e = .returned (.tuple #[.string ⟨(Sha.endOf n).toArray⟩, .int .i64 0]) ∧ Below w.heap.size w w' := by
  have H := Lib.hid hn
  go_enter Tryd.func38, Tryd.ntmps38
  go_wp2_with fail
  refine (check_ok _ (by omega) (by omega) _).mono ?_
  rintro e w1 ⟨rfl, rfl⟩
  go_wp2_with fail
  refine (end_any n H.out _).mono ?_
  rintro e w1 ⟨rfl, hb⟩
  have HB := Lib.hid hb
  clear hb
  go_wp2_with fail
  exact bodyPost_ret (v := _) (by simp [results, Tryd.results38, go_sem]) rfl ⟨rfl, HB.out⟩
theorem endBad_any (n : Int) (hn : n < 0 ∨ 100000 < n) (w : World) (hg : w.cell? ⟨4, 0, none⟩ = some (.iface 157 (.agg #[.pointer (some ⟨6, 67, none⟩)]))) (h4 : 4 < w.heap.size) :
    Calls Tryd.prog 38 #[.int .i64 n] w fun e w' => e = .returned (.tuple #[.string ⟨#[]⟩, .int .i64 20]) ∧ Below w.heap.size w w' := by
  have H := Lib.hid hn
  have Hg := Lib.hid hg
  clear hn hg
  go_enter Tryd.func38, Tryd.ntmps38
  go_wp2_with fail
  refine (check_bad _ H.out _).mono ?_
  rintro e w1 ⟨⟨m, rfl⟩, rfl⟩
  go_wp2_with fail
  refine (dtold_long m _ Hg.out h4).mono ?_
  rintro e w1 ⟨rfl, hb⟩
  have HB := Lib.hid hb
  clear hb
  go_wp2_with fail
  exact bodyPost_ret (v := _) (by simp [results, Tryd.results38, go_sem]) rfl ⟨rfl, HB.out⟩
end Go.Proofs.YtfafidholldjlaaDoor
