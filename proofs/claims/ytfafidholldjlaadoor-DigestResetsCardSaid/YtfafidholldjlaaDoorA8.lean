/- words as an iterator; Schedule. -/
import Derived.Test.YtfafidholldjlaaDoorA7
import Derived.Test.YtfafidholldjlaaDoorRange
import Derived.RangeFuncBox
import Derived.Maps.AppendAt
set_option linter.unusedVariables false
set_option linter.unusedSimpArgs false
namespace Go.Proofs.YtfafidholldjlaaDoor
open Go.RowKit
attribute [local go_sem] Oper.semAt_some
theorem info3 : (Tryd.prog.info? 3).map (fun i => (i.zero, i.size, i.bytes)) = some (some (.int .i64 0), 1, 8) := by kernel_rfl
theorem enters82 (args : Array Value) (w : World) : (callFunc 82 args).run Tryd.prog w = .ok (.enter 82 args) w := by kernel_rfl
theorem words_iter (s : ByteArray) (hs : s.size = 64) (bs bw : Nat) (T T' : TypeId) (w : World) (hbs : w.heap[bs]? = some (.cells #[.string s] T (0, 0))) (hbw : w.heap[bw]? = some (.cells (wRow s 0) T' (0, 0))) (hne : bs ≠ bw) :
    Iter false Tryd.prog 82 #[.pointer (some ⟨bs, 0, none⟩), .pointer (some ⟨bw, 0, none⟩)] 3 64 (fun t => #[.int .u32 (Sha.word (byteAt s) t : Nat)]) (· = bw) (fun k => k = bs ∨ k = bw) w := by
  intro l J Jx W1 hb hJ _ hX hY h0
  refine (words_calls s hs l bs bw T T' J hJ ?_ W1 ((hb.block _ (lt_of_heap hbs)).trans hbs) ((hb.block _ (lt_of_heap hbw)).trans hbw) hne h0).mono ?_
  · intro t ht W hJt
    obtain ⟨fn, tmps, assign, body, hy, hR⟩ := hY t ht W hJt
    refine ⟨fn, tmps, assign, body, hy, hR.mono ?_⟩
    rintro e W' (⟨he, hj, hf⟩ | ⟨_, hx⟩)
    · exact ⟨he, hj, hf.mono fun k _ h => ⟨fun e => h (.inl e), fun e => h (.inr e)⟩⟩
    · exact absurd hx (hX rfl W')
  · rintro e W' ⟨rfl, hj⟩
    exact ⟨⟨_, rfl⟩, .inl hj⟩
theorem wRow_zero (s : ByteArray) : wRow s 0 = Array.replicate 64 (.int .u32 0) := by
  unfold wRow
  apply Array.ext
  · simp
  · intro i h1 h2; simp
set_option maxRecDepth 100000 in
theorem words_any (s : ByteArray) (w : World) :
    Calls Tryd.prog 62 #[.string s] w fun e w' => e = .returned (.func (.func 82) #[] #[.pointer (some ⟨w.heap.size, 0, none⟩), .pointer (some ⟨w.heap.size + 1, 0, none⟩)]) ∧
      ∃ T', w'.heap[w.heap.size]? = some (.cells #[.string s] 9 (0, 0)) ∧ w'.heap[w.heap.size + 1]? = some (.cells (wRow s 0) T' (0, 0)) ∧ Below w.heap.size w w' ∧ w'.heap.size = w.heap.size + 2 := by
  go_enter Tryd.func62, Tryd.ntmps62
  go_wp2
  go_ret
  refine ⟨rfl, 108, alloc_heap_old _ (alloc_heap _ _), ?_, ((Below.refl _ _).alloc (Nat.le_refl _) _).alloc (by simp) _, by simp⟩
  rw [wRow_zero]
  exact alloc_heap_at _ _ _ (by simp)
set_option maxRecDepth 100000 in
set_option maxHeartbeats 1000000 in
theorem schedule_ok {B : Nat} {aw ab : Addr} {w : World} (h : Glob B aw ab w) (s : ByteArray) (hs : s.size = 64) :
    Calls Tryd.prog 25 #[.string s] w fun e w' => ∃ g cap, e = .returned (.tuple #[.slice (some ⟨g, 0, none⟩) 64 cap, .int .i64 0]) ∧ w.heap.size ≤ g ∧ g < w'.heap.size ∧
      (∀ k, k < 64 → w'.cell? ⟨g, k, none⟩ = some (.int .i64 (Sha.word (byteAt s) k : Nat))) ∧ Below w.heap.size w w' := by
  have Hs := Lib.hid hs
  clear hs
  refine callsIn_wide.1 (callsIn_of_wp_marks (n := 5) Tryd.func25 rfl trivial (wpIn_wide.2 ?_))
  simp only [Tryd.ntmps25, List.size_toArray, List.length_cons, List.length_nil, Nat.reduceAdd, Nat.reduceSub, Array.replicate_succ, Array.replicate_zero, List.push_toArray, List.append_toArray, List.nil_append, List.cons_append]
  go_wp2_with fail
  refine (checkBlock_ok s _ Hs.out).mono ?_
  rintro e w' ⟨rfl, rfl⟩
  go_wp2_with fail
  refine (words_any s _).mono ?_
  rintro e w1 ⟨rfl, hT⟩
  go_wp2_with fail
  obtain ⟨T', hbs, hbw, hbl, hsz⟩ := hT
  simp only [World.size_alloc] at hbs hbw hbl hsz
  have hB0 : w1.heap[w.heap.size]? = some (.cells #[.slice none 0 0] 26 (0, 0)) := (hbl.block _ (Nat.lt_succ_self _)).trans (alloc_heap _ _)
  have hw1 : Below w.heap.size w w1 := ((Below.refl _ w).alloc (Nat.le_refl _) _).trans (hbl.mono (Nat.le_succ _))
  have HB0 := Lib.hid hB0
  have hs1 : w.heap.size + 2 < w1.heap.size := by omega
  clear hsz
  obtain ⟨i0, hi, hz0, hz1, hz2⟩ := info_parts info3
  refine wpIn_wide.1 (range_law (n := 5) (gf := 82) (lb := #[.pointer (some ⟨w.heap.size + 1, 0, none⟩), .pointer (some ⟨w.heap.size + 1 + 1, 0, none⟩)]) rfl (fun args wx => enters82 args wx)
    (words_iter s Hs.out _ _ _ _ w1 hbs hbw (by omega)) (fun k e => by subst e; exact lt_of_heap hbw) (fun k e => by rcases e with rfl | rfl; exact lt_of_heap hbs; exact lt_of_heap hbw) (fun _ => rfl)
    (fun t W => (∃ v, W.heap[w.heap.size]? = some (.cells #[v] 26 (0, 0)) ∧ W.ownsRow (w1.heap.size + 2) 3 1 v t ((List.range t).map fun k => Value.int .i64 (Sha.word (byteAt s) k : Nat))) ∧ Below w.heap.size w W)
    (fun _ _ => False) ?hI (fun _ _ _ h _ => h) (fun _ _ _ h => h) ?h0 (fun t => { tmps := #[Value.string s, undef, Value.slice none 0 0, Value.int IntKind.i64 0, Value.nilIface,
          Value.pointer (some { block := w.heap.size, off := 0 }), .int .u32 (Sha.word (byteAt s) t : Nat), Value.string s, Value.nilIface,
          Value.nilIface, Value.bool false, undef, undef, Value.string s,
          Value.func (Fn.func 82) #[]
            #[Value.pointer (some { block := w.heap.size + 1, off := 0 }),
              Value.pointer (some { block := w.heap.size + 1 + 1, off := 0 })],
          .int .u32 (Sha.word (byteAt s) t : Nat), undef, undef, undef, undef, undef, undef], defers := [] }) ?assign ?body ?done (fun _ _ h _ => h.elim))
  case hI =>
    rintro t W W' ⟨⟨v, hv, hrow⟩, hb⟩ hf
    refine ⟨⟨v, hf.heap hv (by omega), ownsRow_far hrow hf (by omega)⟩, ?_⟩
    exact hb.trans (hf.to_below hb.size (by omega))
  case h0 => exact ⟨⟨_, HB0.out, World.ownsRow_nil _ _ _ _⟩, hw1⟩
  case assign =>
    intro t W K hK
    gi_wp2
    exact hK
  case body =>
    rintro t W ht hlt ⟨⟨v, hv, hrow⟩, hb⟩
    have hc : W.cell? ⟨w.heap.size, 0, none⟩ = some v := cell_of hv 0
    have hv' := Lib.hid hv
    have hl := Sha.word_lt (byteAt s) (byteAt_lt s) t
    clear hv
    gi_wp2_with (gi_at_builtin; refine wpListIn_append_own _ rfl (.tmp 16) (.tmp 19) 26 rfl (w1.heap.size + 2) 3 i0 (.int .i64 0) 1 8 Tryd.underlying26 hi hz0 hz1 hz2 rfl (by decide) v t _ rfl (hrow.alloc _) ⟨W.heap.size, 0, none⟩ 1 1 [.int .i64 (Sha.word (byteAt s) t : Nat)] rfl rfl (cell_one_new _ _ _) (by simp [Value.oneCell']) (by unfold maxLen; omega) (by omega) (by simp; omega) ?_; intro v' w2 hown' hgrow _; obtain ⟨g, cap, rfl, hg1, hg2⟩ := ownsRow_form hown'; have hrl := hrow.lt; have hf2 : Far (fun k => w1.heap.size + 2 ≤ k) W w2 := ((Far.refl _ W).alloc _).grown hgrow (fun k e _ => (hrl k e).1); have hb2 : w2.heap[w.heap.size]? = some (.cells #[v] 26 (0, 0)) := hf2.heap hv'.out (by omega); have hc1 : w2.cell? ⟨w.heap.size, 0, none⟩ = some v := cell_of hb2 0; have hz1 : w2.frozen? ⟨w.heap.size, 0, none⟩ = false := frozen_of hb2 0; have Hb2 := Lib.hid hb2; have Hown := Lib.hid hown'; clear hb2 hown' hgrow hrl)
    refine ⟨⟨⟨_, setCell_heap Hb2.out 0 _, ?_⟩, ?_⟩, ?_⟩
    · rw [List.range_succ, List.map_append]
      exact ownsRow_far Hown.out ((Far.refl (· = w.heap.size) _).setCell (fun _ => rfl) _) (by omega)
    · refine (hb.trans (hf2.to_below hb.size (by omega))).setCell (p := ⟨w.heap.size, 0, none⟩) (Nat.le_refl _) _
    · exact (hf2.mono (by omega)).setCell (fun _ h => by rcases h with (h | h) | h | h <;> (simp only at h; omega)) _
  case done =>
    rintro W ⟨⟨v, hv, hrow⟩, hb⟩ hK
    have hc : W.cell? ⟨w.heap.size, 0, none⟩ = some v := cell_of hv 0
    obtain ⟨g, cap, rfl, hg1, hg2⟩ := ownsRow_form hrow
    have Hrow := Lib.hid hrow
    have HK := Lib.hid hK
    clear hrow hv hK
    go_wp2_with fail
    refine ⟨by simp, .inl ⟨_, _, rfl, run_takeDeferred HK.out, ?_⟩⟩
    have hp := far_putObj W w1.heap.size (.deferred none)
    refine ⟨_, results_tmp2 rfl _ _ _, g, cap, rfl, by omega, by simpa using hg2, ?_, hb.trans (hp.to_below hb.size (by omega))⟩
    intro k hk
    refine (hp.cell (p := ⟨g, k, none⟩) hg2 (by show ¬ g = _; omega)).trans ?_
    exact ownsRow_cell Hrow.out k _ (by simp [hk])
end Go.Proofs.YtfafidholldjlaaDoor
