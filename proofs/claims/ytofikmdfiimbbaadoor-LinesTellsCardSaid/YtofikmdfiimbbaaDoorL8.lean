/- Split, walked. -/
import Derived.Test.YtofikmdfiimbbaaDoorL7
import Derived.Test.YtofikmdfiimbbaaDoorL4
set_option linter.unusedVariables false
set_option linter.unusedSimpArgs false
namespace Go.Proofs.YtofikmdfiimbbaaDoor
open Go.RowKit
attribute [local go_sem] setCell_twice
attribute [local go_sem] Oper.semAt_some
/-- What stands where a row has been laid. -/
def SA (s : ByteArray) (w : World) (p : Nat) (t : Nat) (a : Act) (W : World) : Prop :=
  SI s w p t W ∧ ∃ rb, W.heap[rb]? = some (.cells #[.string (rowAt s t)] 44 (0, 0)) ∧ p + 4 ≤ rb ∧ a = { tmps := #[Value.string s, undef, Value.pointer (some { block := w.heap.size, off := 0 }), Value.pointer (some { block := w.heap.size + 1, off := 0 }), Value.pointer (some { block := w.heap.size + 1 + 1, off := 0 }),
    Value.pointer (some { block := p, off := 0 }), .int .i64 ((t : Int) + 1), .pointer (some ⟨rb, 0, none⟩), undef, undef, undef, Value.bool false, Value.string s, Value.int IntKind.i64 ↑s.size, Value.bool false, Value.bool false, Value.string s, Value.bool true, Value.bool false, Value.string s, .func (.func 32) #[] #[.pointer (some ⟨p + 1, 0, none⟩)], .int .i64 ((t : Int) + 1), .agg #[.string (rowAt s t)], undef, undef, undef, undef, undef, undef, undef, undef, undef, undef, undef, undef, undef, undef, undef, undef, undef, undef, undef, undef], defers := [] }
theorem SA.far {s : ByteArray} {w : World} {p t q : Nat} {a : Act} {W W' : World} (h : SA s w p t a W) (hf : Far (· = q) W W') (hp : w.heap.size + 3 ≤ p) (hq : p < q) (hq2 : q < p + 4) : SA s w p t a W' := by
  obtain ⟨h1, rb, h2, h3, h4⟩ := h
  exact ⟨h1.far hf hp hq hq2, rb, hf.heap h2 (by omega), h3, h4⟩
theorem why76 (W : World) : (Go.method 234 76 (.agg #[]) "sigillary/lines.why").run Tryd.prog W = .ok (95, .agg #[]) W := by kernel_rfl
theorem why77 (W : World) : (Go.method 234 77 (.agg #[]) "sigillary/lines.why").run Tryd.prog W = .ok (96, .agg #[]) W := by kernel_rfl
theorem enters95 (args : Array Value) (w : World) : (callFunc 95 args).run Tryd.prog w = .ok (.enter 95 args) w := by kernel_rfl
theorem enters96 (args : Array Value) (w : World) : (callFunc 96 args).run Tryd.prog w = .ok (.enter 96 args) w := by kernel_rfl
theorem sign_why (w : World) : Calls Tryd.prog 95 #[.agg #[]] w fun e w' => e = .returned (.int .i64 80) ∧ Below w.heap.size w w' := by
  go_enter Tryd.func95, Tryd.ntmps95
  go_wp2
  go_ret
  exact ⟨rfl, (Below.refl _ _).alloc (Nat.le_refl _) _⟩
theorem mark_why (w : World) : Calls Tryd.prog 96 #[.agg #[]] w fun e w' => e = .returned (.int .i64 81) ∧ Below w.heap.size w w' := by
  go_enter Tryd.func96, Tryd.ntmps96
  go_wp2
  go_ret
  exact ⟨rfl, (Below.refl _ _).alloc (Nat.le_refl _) _⟩
theorem bad_at (R : List Ln.B) (t : Nat) (r : Ln.B) (hr : R[t]? = some r) (h6 : ∀ r ∈ R.take t, Ln.trouble r = 0) (er : Int) (he : Ln.trouble r = er) (h0 : er ≠ 0) : Ln.bad 1 R = ((t : Int) + 1, er) := by
  have hlt : t < R.length := by
    by_cases h : t < R.length
    · exact h
    · rw [List.getElem?_eq_none (by omega)] at hr; simp at hr
  have e : R = R.take t ++ r :: R.drop (t + 1) := by
    have hd : R.drop t = r :: R.drop (t + 1) := by
      rw [List.drop_eq_getElem_cons hlt]
      congr 1
      rw [List.getElem?_eq_getElem hlt] at hr
      exact Option.some.inj hr
    rw [← hd, List.take_append_drop]
  rw [e, Ln.bad_append 1 _ _ h6, Ln.bad, if_neg (by rw [he]; exact h0), List.length_take_of_le (Nat.le_of_lt hlt), he]
  simp only [Prod.mk.injEq, and_true]
  omega
theorem lns_take (R : List Ln.B) (t : Nat) (r : Ln.B) (h : R.take (t + 1) = R.take t ++ [r]) (hl : (R.take t).length = t) : Ln.lns 1 (R.take (t + 1)) = Ln.lns 1 (R.take t) ++ Ln.lineL ((t : Int) + 1) r := by
  rw [h, Ln.lns_append, hl, Ln.lns, Ln.lns, List.append_nil]
  congr 2
  omega
theorem lns_len : ∀ (n : Int) (rs : List Ln.B), (Ln.lns n rs).length ≤ rs.length
  | _, [] => Nat.le_refl _
  | n, r :: rs => by
    have := lns_len (n + 1) rs
    unfold Ln.lns Ln.lineL
    split <;> simp <;> omega
theorem trouble_ways (r : ByteArray) : (troubleV r = .nilIface ∧ Ln.trouble r.data.toList = 0) ∨ (troubleV r = .iface 76 (.agg #[]) ∧ Ln.trouble r.data.toList = 80) ∨ (troubleV r = .iface 77 (.agg #[]) ∧ Ln.trouble r.data.toList = 81) := by
  unfold troubleV Ln.trouble
  cases Ln.plainB r.data.toList with
  | false => exact .inr (.inl ⟨rfl, rfl⟩)
  | true =>
    cases Ln.markB r.data.toList with
    | false => exact .inl ⟨rfl, rfl⟩
    | true => exact .inr (.inr ⟨rfl, rfl⟩)
theorem World.ownsRow.base_le {w : World} {base base' : Nat} {e : TypeId} {size : Nat} {v : Value} {n : Nat} {xs : List Value} (h : w.ownsRow base e size v n xs) (hb : base' ≤ base) : w.ownsRow base' e size v n xs := by
  refine ⟨h.1, ?_⟩
  rcases h.2 with h | ⟨g, cap, cur, rfl, hg, rest⟩
  · exact .inl h
  · exact .inr ⟨g, cap, cur, rfl, by omega, rest⟩
set_option maxRecDepth 100000 in
set_option maxHeartbeats 2000000 in
theorem split_any (s : ByteArray) (hs : s.size ≤ 1000000) (w : World) (hG : Glob w) : Calls Tryd.prog 12 #[.string s] w (SplitPost s w) := by
  obtain ⟨ti, hi, hz0, hz1, hz2⟩ := info_parts info36
  have HG := Lib.hid hG
  clear hG
  refine callsIn_wide.1 (callsIn_of_wp_marks (n := 5) Tryd.func12 rfl trivial (wpIn_wide.2 ?_))
  simp only [Tryd.ntmps12, List.size_toArray, List.length_cons, List.length_nil, Nat.reduceAdd, Nat.reduceSub, Array.replicate_succ, Array.replicate_zero, List.push_toArray, List.append_toArray, List.nil_append, List.cons_append]
  have hf0 : Below w.heap.size w (((w.alloc (.cells #[.slice none 0 0] 22)).alloc (.cells #[.int .i64 0] 3)).alloc (.cells #[.int .i64 0] 26)) := (((Below.refl _ _).alloc (Nat.le_refl _) _).alloc (by simp) _).alloc (by simp; omega) _
  by_cases h8 : (8000 : Int) < (s.size : Int)
  · have hsp : Ln.split s.data.toList = ([], 0, 20) := by unfold Ln.split; rw [if_pos (by rw [text_size]; omega)]
    go_wp2_with fail
    refine split_early (w := w) _ (.slice none 0 0) 0 20 _ (alloc_heap_old _ (alloc_heap_old _ (alloc_heap_at _ _ _ rfl))) (alloc_heap_old _ (alloc_heap_at _ _ _ (by simp))) ⟨_, _, _, rfl⟩ (alloc_heap_at _ _ _ (by simp)) rfl rfl rfl rfl ?_
    refine ⟨⟨_, by rw [hsp], ?_⟩, (((Below.refl _ _).alloc (Nat.le_refl _) _).alloc (by simp) _).alloc (by simp; omega) _⟩
    rw [hsp]
    exact World.ownsRow_nil _ _ _ _
  · go_wp2_with fail
    refine (right_any s hs _ (HG.out.step hf0)).mono ?_
    rintro e w1 ⟨rfl, hb1⟩
    have hq0 : w1.heap[w.heap.size]? = some (.cells #[.slice none 0 0] 22 (0, 0)) := (hb1.block _ (by simp; omega)).trans (alloc_heap_old _ (alloc_heap_old _ (alloc_heap_at _ _ _ rfl)))
    have hq1 : w1.heap[w.heap.size + 1]? = some (.cells #[.int .i64 0] 3 (0, 0)) := (hb1.block _ (by simp)).trans (alloc_heap_old _ (alloc_heap_at _ _ _ (by simp)))
    have hq2 : w1.heap[w.heap.size + 1 + 1]? = some (.cells #[.int .i64 0] 26 (0, 0)) := (hb1.block _ (by simp)).trans (alloc_heap_at _ _ _ (by simp))
    have hbw : Below w.heap.size w w1 := hf0.trans (hb1.mono (by simp; omega))
    have hs1 : w.heap.size + 3 ≤ w1.heap.size := by have := lt_of_heap hq2; omega
    have c0 : w1.cell? ⟨w.heap.size, 0, none⟩ = some _ := cell_of hq0 0
    have c1 : w1.cell? ⟨w.heap.size + 1, 0, none⟩ = some _ := cell_of hq1 0
    have c2 : w1.cell? ⟨w.heap.size + 1 + 1, 0, none⟩ = some _ := cell_of hq2 0
    have z0 : w1.frozen? ⟨w.heap.size, 0, none⟩ = false := frozen_of hq0 0
    have z1 : w1.frozen? ⟨w.heap.size + 1, 0, none⟩ = false := frozen_of hq1 0
    have z2 : w1.frozen? ⟨w.heap.size + 1 + 1, 0, none⟩ = false := frozen_of hq2 0
    have Q0 := Lib.hid hq0
    have Q1 := Lib.hid hq1
    have Q2 := Lib.hid hq2
    have HBW := Lib.hid hbw
    clear hb1 hq0 hq1 hq2 hbw
    obtain ⟨rt, hrt⟩ : ∃ b, Ln.right s.data.toList = b := ⟨_, rfl⟩
    rw [hrt]
    cases rt with
    | false =>
      have hsp : Ln.split s.data.toList = ([], 0, 40) := by unfold Ln.split; rw [if_neg (by rw [text_size]; omega), if_pos hrt]
      go_wp2_with fail
      obtain ⟨x0, x1, x2⟩ := three_cells (.slice none 0 0) (.int .i64 0) (.int .i64 40) _ _ _ Q0.out Q1.out Q2.out
      refine split_early (w := w) _ (.slice none 0 0) 0 40 _ x0 x1 ⟨_, _, _, rfl⟩ x2 rfl rfl rfl rfl ?_
      refine ⟨⟨_, by rw [hsp], ?_⟩, ((HBW.out.setCell (Nat.le_refl _) _).setCell (Nat.le_succ _) _).setCell (by show w.heap.size ≤ w.heap.size + 1 + 1; omega) _⟩
      rw [hsp]
      exact World.ownsRow_nil _ _ _ _
    | true =>
      obtain ⟨p, hp⟩ : ∃ p, w1.heap.size = p := ⟨_, rfl⟩
      clear c0 c1 c2 z0 z1 z2
      go_wp2_with fail
      refine (rows_any s _).mono ?_
      rintro e W1 ⟨rfl, hW1⟩
      have hs2 : (w1.alloc (Obj.cells #[Value.slice none 0 0] 22)).heap.size = p + 1 := by simp [hp]
      rw [hs2]
      have hS1 : W1.heap.size = p + 2 := by rw [hW1]; simp [hp]
      have hbs : W1.heap[p + 1]? = some (.cells #[.string s] 9 (0, 0)) := by rw [hW1]; exact alloc_heap_at _ _ _ (by simp [hp])
      have hp0 : W1.heap[p]? = some (.cells #[.slice none 0 0] 22 (0, 0)) := by rw [hW1]; exact alloc_heap_old _ (alloc_heap_at _ _ _ hp.symm)
      have hb1 : Below w.heap.size w W1 := by rw [hW1]; exact (HBW.out.alloc HBW.out.size _).alloc (by simp; omega) _
      have hI0 : SI s w p 0 W1 := by
        refine ⟨⟨_, hp0, World.ownsRow_nil _ _ _ _⟩, ?_, ?_, ?_, fun r hr => absurd hr (by simp), hb1⟩
        · rw [hW1]; exact alloc_heap_old _ (alloc_heap_old _ Q0.out)
        · rw [hW1]; exact alloc_heap_old _ (alloc_heap_old _ Q1.out)
        · rw [hW1]; exact alloc_heap_old _ (alloc_heap_old _ Q2.out)
      have hG1 := HG.out.step hb1
      have hp3 : w.heap.size + 3 ≤ p := by omega
      have HI0 := Lib.hid hI0
      have HS1 := Lib.hid hS1
      have HBS := Lib.hid hbs
      have HG1 := Lib.hid hG1
      have HP := Lib.hid hp
      have hg3 := HG.out.1
      clear hW1 hs2 hp hs1 hS1 hbs hp0 hb1 hI0 hG1 Q0 Q1 Q2 HBW
      go_wp2_with fail
      obtain ⟨m, hm⟩ := HG1.out.2.2
      refine wpIn_wide.1 (range_law4 (n := 5) (X := true) (gf := 32) (lb := #[.pointer (some ⟨p + 1, 0, none⟩)]) rfl (fun args wx => enters32 args wx)
        (rows_iter s hs (p + 1) W1 HBS.out (by omega) m hm HG1.out.1) (fun _ _ _ _ => trivial) (fun W W' h => h.mono (fun k _ e => by have := HS1.out; omega)) (fun A B C D f1 h f3 => h.fars f1 f3 (by have := HS1.out; omega) (by have := HS1.out; omega)) (fun _ => rfl)
        (SI s w p) (fun c W => c = .ret ∧ SX s w W) (fun t W W' h hf => h.far hf hp3 (by omega) (by omega)) (fun c W W' h hf => ⟨h.1, h.2.far hf hp3 (by omega)⟩) (fun t W W' h hf => h.far (q := p + 3) (hf.mono (fun k _ e => by have := HS1.out; omega)) hp3 (by omega) (by omega)) (fun c W W' h hf => ⟨h.1, h.2.far (p := p) (q := p + 3) (hf.mono (fun k _ e => by have := HS1.out; omega)) hp3 (by omega)⟩) (fun h => by cases h) HI0.out
        (SA s w p) (fun t a W W' h hf => h.far (q := p + 3) (hf.mono (fun k _ e => by have := HS1.out; omega)) hp3 (by omega) (by omega)) (fun A B C h k => h.trans k) ?assign ?body ?done ?stop)
      case assign =>
        intro t W K ht hlt hI hK
        gi_wp2
        exact hK _ _ ⟨hI.far (q := p + 3) ((Far.refl (· = p + 3) W).alloc _) hp3 (by omega) (by omega), W.heap.size, alloc_heap _ _, by have := HS1.out; omega, rfl⟩ ((Far.refl _ W).alloc _) (.of_far ((Far.refl NoneD W).alloc _) (fun e => e) (fun e => e))
      case body =>
        rintro t a W ht hlt ⟨⟨⟨v, q1, q2⟩, q3, q4, q5, q6, q7⟩, rb, hrb, hrb4, rfl⟩
        rw [HS1.out] at hlt ⊢
        obtain ⟨r, hr⟩ : ∃ r, rowAt s t = r := ⟨_, rfl⟩
        have hrl : (Ln.rows s.data.toList)[t]? = some r.data.toList := by
          rw [← hr]
          unfold rowAt
          rw [List.getD_eq_getElem?_getD, List.getElem?_eq_getElem ht]
          rfl
        have hrz : r.size ≤ 1000000 := by
          have h1 := Ln.rows_row_size s.data.toList _ (List.mem_of_getElem? hrl)
          rw [text_size, text_size] at h1
          omega
        rw [hr] at hrb ⊢
        have htk : (Ln.rows s.data.toList).take (t + 1) = (Ln.rows s.data.toList).take t ++ [r.data.toList] := by
          rw [List.take_add_one, hrl]
          rfl
        have htl : ((Ln.rows s.data.toList).take t).length = t := List.length_take_of_le (Nat.le_of_lt ht)
        have c0 : W.cell? ⟨rb, 0, none⟩ = some (.string r) := cell_of hrb 0
        have HTK := Lib.hid htk
        have HTL := Lib.hid htl
        have HRL := Lib.hid hrl
        have HR := Lib.hid hr
        have Q1 := Lib.hid q1
        have Q2 := Lib.hid q2
        have Q3 := Lib.hid q3
        have Q4 := Lib.hid q4
        have Q5 := Lib.hid q5
        have Q6 := Lib.hid q6
        have Q7 := Lib.hid q7
        have HRB := Lib.hid hrb
        clear q1 q2 q3 q4 q5 q6 q7 hrb htk htl hrl hr
        gi_wp2_with fail
        refine ⟨trivial, (CallsIn.inRound _ (callsIn_wide.2 (trouble_any r hrz W))).mono ?_⟩
        rintro e w2 ⟨rfl, hb2⟩
        have hrb2 : w2.heap[rb]? = some (.cells #[.string r] 44 (0, 0)) := (hb2.block _ (lt_of_heap HRB.out)).trans HRB.out
        have c2 : w2.cell? ⟨rb, 0, none⟩ = some (.string r) := cell_of hrb2 0
        have f2 : Far NoneD W w2 := .of_below hb2 NoneD
        have F2 := Lib.hid f2
        have HRB2 := Lib.hid hrb2
        clear c0 hb2 f2 hrb2
        rcases trouble_ways r with ⟨hv, ht0⟩ | ⟨hv, ht0⟩ | ⟨hv, ht0⟩
        · rw [hv]
          gi_wp2_with fail
          refine ⟨trivial, (CallsIn.inRound _ (callsIn_wide.2 (line_any r hrz _ w2))).mono ?_⟩
          rintro e w3 ⟨⟨n, i, tx, rfl, hln⟩, hb3⟩
          have f3 : Far NoneD W w3 := F2.out.below hb3
          have HLN := Lib.hid hln
          have F3 := Lib.hid f3
          have q63 : ∀ r' ∈ (Ln.rows s.data.toList).take (t + 1), Ln.trouble r' = 0 := by
            rw [HTK.out]
            intro r' hr'
            rcases List.mem_append.1 hr' with h | h
            · exact Q6.out r' h
            · rw [List.mem_singleton.1 h]; exact ht0
          have hlns := lns_take _ t r.data.toList HTK.out HTL.out
          have Q63 := Lib.hid q63
          have HLNS := Lib.hid hlns
          have q13 := f3.heap Q1.out (fun e => e)
          have q23 := ownsRow_far Q2.out f3 (fun _ _ _ e => e)
          have q33 := f3.heap Q3.out (fun e => e)
          have q43 := f3.heap Q4.out (fun e => e)
          have q53 := f3.heap Q5.out (fun e => e)
          have q73 := Q7.out.trans (f3.to_below Q7.out.size (fun _ _ e => e))
          have hz3 := f3.size
          have Q13 := Lib.hid q13
          have Q23 := Lib.hid q23
          have Q33 := Lib.hid q33
          have Q43 := Lib.hid q43
          have Q53 := Lib.hid q53
          have Q73 := Lib.hid q73
          clear hln f3 hb3 q63 hlns q13 q23 q33 q43 q53 q73 hv
          obtain ⟨sy, hsy⟩ : ∃ b, Ln.says r.data.toList = b := ⟨_, rfl⟩
          rw [hsy]
          cases sy with
          | false =>
            gi_wp2_with fail
            have hf : Far NoneD W (w3.alloc (Obj.cells #[Value.int IntKind.i64 n, Value.int IntKind.i64 i, Value.string tx] 36)) := F3.out.alloc _
            have hl : Ln.lns 1 ((Ln.rows s.data.toList).take (t + 1)) = Ln.lns 1 ((Ln.rows s.data.toList).take t) := by
              rw [HLNS.out, Ln.lineL, hsy, if_neg (by decide), List.append_nil]
            exact ⟨⟨⟨v, hf.heap Q1.out (fun e => e), by rw [hl]; exact ownsRow_far Q2.out hf (fun _ _ _ e => e)⟩, hf.heap Q3.out (fun e => e), hf.heap Q4.out (fun e => e), hf.heap Q5.out (fun e => e), Q63.out, Q7.out.trans (hf.to_below Q7.out.size (fun _ _ e => e))⟩, hf.mono (fun _ _ e => e.elim), .of_far hf (fun e => e) (fun e => e)⟩
          | true =>
            obtain ⟨k, hk⟩ : ∃ k, (Ln.lns 1 ((Ln.rows s.data.toList).take t)).length = k := ⟨_, rfl⟩
            have hkt : k ≤ t := by rw [← hk]; have := lns_len 1 ((Ln.rows s.data.toList).take t); rw [HTL.out] at this; exact this
            have htz : t ≤ 1000000 := by have := Ln.rows_size s.data.toList; rw [text_size] at this; omega
            have q23 := Q23.out
            unfold Lines at q23
            rw [hk] at q23
            have hl : Ln.lns 1 ((Ln.rows s.data.toList).take (t + 1)) = Ln.lns 1 ((Ln.rows s.data.toList).take t) ++ [⟨n, i, tx.data.toList⟩] := by
              rw [HLNS.out, Ln.lineL, hsy, if_pos rfl, HLN.out]
            have hl2 : lineCells (Ln.lns 1 ((Ln.rows s.data.toList).take (t + 1))) = lineCells (Ln.lns 1 ((Ln.rows s.data.toList).take t)) ++ [.int .i64 n, .int .i64 i, .string tx] := by
              rw [hl, lineCells_append]
              rfl
            have hl3 : (Ln.lns 1 ((Ln.rows s.data.toList).take (t + 1))).length = k + 1 := by rw [hl, List.length_append, hk]; rfl
            have c13 : w3.cell? ⟨p, 0, none⟩ = some v := cell_of Q13.out 0
            have z13 : w3.frozen? ⟨p, 0, none⟩ = false := frozen_of Q13.out 0
            have p3 := lt_of_heap Q13.out
            have H2 := Lib.hid hl2
            have H3 := Lib.hid hl3
            have hn1 : k + 1 ≤ maxLen := by unfold maxLen; omega
            have hn2 : (k + 1) * 32 ≤ 140737488355328 := by omega
            have hcells : ∀ (j : Nat) (u : Value), [Value.int .i64 n, .int .i64 i, .string tx][j]? = some u → ((w3.alloc (Obj.cells #[Value.int IntKind.i64 n, Value.int IntKind.i64 i, Value.string tx] 36)).alloc (Obj.cells #[Value.int IntKind.i64 n, Value.int IntKind.i64 i, Value.string tx] 36)).cell? ((⟨w3.heap.size + 1, 0, none⟩ : Addr).add j) = some u := by
              intro j u hj
              have hadd : (⟨w3.heap.size + 1, 0, none⟩ : Addr).add j = ⟨w3.heap.size + 1, j, none⟩ := by unfold Addr.add; split <;> simp_all
              rw [hadd, cell_of (alloc_heap_at _ _ (w3.heap.size + 1) (by simp)) j]
              simpa using hj
            have hbs : p + 4 ≤ ((w3.alloc (Obj.cells #[Value.int IntKind.i64 n, Value.int IntKind.i64 i, Value.string tx] 36)).alloc (Obj.cells #[Value.int IntKind.i64 n, Value.int IntKind.i64 i, Value.string tx] 36)).heap.size := by simp; omega
            clear hl hl2 hl3 hk HLNS HLN hsy
            gi_wp2_with (gi_at_builtin; refine wpListIn_append_own _ rfl (.tmp 38) (.tmp 40) 22 rfl (p + 4) 36 ti _ 3 32 Tryd.underlying22 hi hz0 hz1 hz2 rfl (by decide) v k _ rfl ((q23.alloc _).alloc _) ⟨w3.heap.size + 1, 0, none⟩ 1 1 [.int .i64 n, .int .i64 i, .string tx] rfl rfl hcells (by simp [Value.oneCell']) hn1 hn2 hbs ?_; intro v' w5 hown' hgrow _; obtain ⟨g, cap, rfl, hg1, hg2⟩ := ownsRow_form hown'; have hrl := q23.lt; have hf2 : Far (fun k => p + 4 ≤ k) w3 w5 := (((Far.refl _ w3).alloc _).alloc _).grown hgrow (fun k e _ => (hrl k e).1); have hb2 := hf2.heap Q13.out (by omega); have hc1 : w5.cell? ⟨p, 0, none⟩ = some v := cell_of hb2 0; have hf1 : w5.frozen? ⟨p, 0, none⟩ = false := frozen_of hb2 0; have Hb2 := Lib.hid hb2; have Hown := Lib.hid hown'; clear hb2 hown' hgrow hrl)
            have hf3 : Far (fun k => k = p) w5 (w5.setCell ⟨p, 0, none⟩ (.slice (some ⟨g, 0, none⟩) (k + 1) cap)) := (Far.refl (fun k => k = p) w5).setCell (p := ⟨p, 0, none⟩) (fun _ => rfl) _
            have hf4 : Far (fun k => k = p ∨ p + 4 ≤ k) W (w5.setCell ⟨p, 0, none⟩ (.slice (some ⟨g, 0, none⟩) (k + 1) cap)) := ((F3.out.mono (fun _ _ e => e.elim)).trans (hf2.mono (fun _ _ e => .inr e))).trans (hf3.mono (fun _ _ e => .inl e))
            refine ⟨⟨⟨.slice (some ⟨g, 0, none⟩) (k + 1) cap, setCell_heap Hb2.out 0 _, ?_⟩, hf4.heap Q3.out (by omega), hf4.heap Q4.out (by omega), hf4.heap Q5.out (by omega), Q63.out, Q7.out.trans (hf4.to_below Q7.out.size (by intro i h1 h2; omega))⟩, hf4.mono (by intro k _ h; omega), .of_far hf4 (by omega) (by omega)⟩
            unfold Lines
            rw [H2.out, H3.out]
            exact ownsRow_far Hown.out hf3 (by intro k h1 _ h2; omega)
        · rw [hv]
          have hbad : Ln.bad 1 (Ln.rows s.data.toList) = ((t : Int) + 1, 80) := bad_at _ t r.data.toList HRL.out Q6.out 80 ht0 (by decide)
          have HBAD := Lib.hid hbad
          clear hbad
          gi_wp2_with fail
          refine ⟨fun _ _ => trivial, ?_⟩
          rw [why76]
          simp only [Result.andThen]
          rw [enters95]
          gi_wp2_with fail
          refine (CallsIn.inRound _ (callsIn_wide.2 (sign_why w2))).mono ?_
          rintro e w3 ⟨rfl, hb3⟩
          have f3 : Far NoneD W w3 := F2.out.below hb3
          have r3 := f3.heap Q3.out (fun e => e)
          have r4 := f3.heap Q4.out (fun e => e)
          have r5 := f3.heap Q5.out (fun e => e)
          have c0 : w3.cell? ⟨w.heap.size, 0, none⟩ = some _ := cell_of r3 0
          have c1 : w3.cell? ⟨w.heap.size + 1, 0, none⟩ = some _ := cell_of r4 0
          have c2 : w3.cell? ⟨w.heap.size + 1 + 1, 0, none⟩ = some _ := cell_of r5 0
          have z0 : w3.frozen? ⟨w.heap.size, 0, none⟩ = false := frozen_of r3 0
          have z1 : w3.frozen? ⟨w.heap.size + 1, 0, none⟩ = false := frozen_of r4 0
          have z2 : w3.frozen? ⟨w.heap.size + 1 + 1, 0, none⟩ = false := frozen_of r5 0
          have R3 := Lib.hid r3
          have R4 := Lib.hid r4
          have R5 := Lib.hid r5
          have F3 := Lib.hid f3
          clear r3 r4 r5 f3 hb3
          gi_wp2_with fail
          obtain ⟨x0, x1, x2⟩ := three_cells (.slice none 0 0) (.int .i64 ((t : Int) + 1)) (.int .i64 80) _ _ _ R3.out R4.out R5.out
          have hf := ((F3.out.mono (D' := fun k => k = w.heap.size ∨ k = w.heap.size + 1 ∨ k = w.heap.size + 1 + 1) (fun _ _ e => e.elim)).setCell (p := ⟨w.heap.size, 0, none⟩) (fun _ => .inl rfl) (.slice none 0 0)).setCell (p := ⟨w.heap.size + 1, 0, none⟩) (fun _ => .inr (.inl rfl)) (.int .i64 ((t : Int) + 1)) |>.setCell (p := ⟨w.heap.size + 1 + 1, 0, none⟩) (fun _ => .inr (.inr rfl)) (.int .i64 80)
          refine ⟨⟨rfl, ?_⟩, hf.mono (by intro k _ h; omega), .of_far hf (by omega) (by omega)⟩
          unfold SX
          rw [HBAD.out]
          exact ⟨(fun e => by cases e), x0, x1, x2, Q7.out.trans (hf.to_below Q7.out.size (by intro i hi h; omega))⟩
        · rw [hv]
          have hbad : Ln.bad 1 (Ln.rows s.data.toList) = ((t : Int) + 1, 81) := bad_at _ t r.data.toList HRL.out Q6.out 81 ht0 (by decide)
          have HBAD := Lib.hid hbad
          clear hbad
          gi_wp2_with fail
          refine ⟨fun _ _ => trivial, ?_⟩
          rw [why77]
          simp only [Result.andThen]
          rw [enters96]
          gi_wp2_with fail
          refine (CallsIn.inRound _ (callsIn_wide.2 (mark_why w2))).mono ?_
          rintro e w3 ⟨rfl, hb3⟩
          have f3 : Far NoneD W w3 := F2.out.below hb3
          have r3 := f3.heap Q3.out (fun e => e)
          have r4 := f3.heap Q4.out (fun e => e)
          have r5 := f3.heap Q5.out (fun e => e)
          have c0 : w3.cell? ⟨w.heap.size, 0, none⟩ = some _ := cell_of r3 0
          have c1 : w3.cell? ⟨w.heap.size + 1, 0, none⟩ = some _ := cell_of r4 0
          have c2 : w3.cell? ⟨w.heap.size + 1 + 1, 0, none⟩ = some _ := cell_of r5 0
          have z0 : w3.frozen? ⟨w.heap.size, 0, none⟩ = false := frozen_of r3 0
          have z1 : w3.frozen? ⟨w.heap.size + 1, 0, none⟩ = false := frozen_of r4 0
          have z2 : w3.frozen? ⟨w.heap.size + 1 + 1, 0, none⟩ = false := frozen_of r5 0
          have R3 := Lib.hid r3
          have R4 := Lib.hid r4
          have R5 := Lib.hid r5
          have F3 := Lib.hid f3
          clear r3 r4 r5 f3 hb3
          gi_wp2_with fail
          obtain ⟨x0, x1, x2⟩ := three_cells (.slice none 0 0) (.int .i64 ((t : Int) + 1)) (.int .i64 81) _ _ _ R3.out R4.out R5.out
          have hf := ((F3.out.mono (D' := fun k => k = w.heap.size ∨ k = w.heap.size + 1 ∨ k = w.heap.size + 1 + 1) (fun _ _ e => e.elim)).setCell (p := ⟨w.heap.size, 0, none⟩) (fun _ => .inl rfl) (.slice none 0 0)).setCell (p := ⟨w.heap.size + 1, 0, none⟩) (fun _ => .inr (.inl rfl)) (.int .i64 ((t : Int) + 1)) |>.setCell (p := ⟨w.heap.size + 1 + 1, 0, none⟩) (fun _ => .inr (.inr rfl)) (.int .i64 81)
          refine ⟨⟨rfl, ?_⟩, hf.mono (by intro k _ h; omega), .of_far hf (by omega) (by omega)⟩
          unfold SX
          rw [HBAD.out]
          exact ⟨(fun e => by cases e), x0, x1, x2, Q7.out.trans (hf.to_below Q7.out.size (by intro i hi h; omega))⟩
      case done =>
        rintro W ⟨⟨v, q1, q2⟩, q3, q4, q5, q6, q7⟩ _ hK
        rw [HS1.out] at hK ⊢
        rw [List.take_length] at q2 q6
        have hsp := Ln.split_ok s.data.toList ((Ln.split_zero s.data.toList).2 ⟨by rw [text_size]; omega, hrt, q6⟩)
        obtain ⟨ao, n', cap, rfl⟩ : ∃ ao n' cap, v = .slice ao n' cap := by
          rcases q2.2 with ⟨hv, _⟩ | ⟨g, cap, cur, hv, _⟩
          · exact ⟨_, _, _, hv⟩
          · exact ⟨_, _, _, hv⟩
        have c0 : W.cell? ⟨w.heap.size, 0, none⟩ = some _ := cell_of q3 0
        have c1 : W.cell? ⟨w.heap.size + 1, 0, none⟩ = some _ := cell_of q4 0
        have c2 : W.cell? ⟨w.heap.size + 1 + 1, 0, none⟩ = some _ := cell_of q5 0
        have c3 : W.cell? ⟨p, 0, none⟩ = some _ := cell_of q1 0
        have z0 : W.frozen? ⟨w.heap.size, 0, none⟩ = false := frozen_of q3 0
        have z1 : W.frozen? ⟨w.heap.size + 1, 0, none⟩ = false := frozen_of q4 0
        have z2 : W.frozen? ⟨w.heap.size + 1 + 1, 0, none⟩ = false := frozen_of q5 0
        have Q2 := Lib.hid q2
        have Q3 := Lib.hid q3
        have Q4 := Lib.hid q4
        have Q5 := Lib.hid q5
        have Q7 := Lib.hid q7
        have HK := Lib.hid hK
        have HSP := Lib.hid hsp
        clear q1 q2 q3 q4 q5 q6 q7 hK hsp
        go_wp2_with fail
        obtain ⟨x0, x1, x2⟩ := three_cells (.slice ao n' cap) (.int .i64 0) (.int .i64 0) _ _ _ Q3.out Q4.out Q5.out
        have hf : Far (fun k => k = w.heap.size ∨ k = w.heap.size + 1 ∨ k = w.heap.size + 1 + 1) W (((W.setCell ⟨w.heap.size, 0, none⟩ (.slice ao n' cap)).setCell ⟨w.heap.size + 1, 0, none⟩ (.int .i64 0)).setCell ⟨w.heap.size + 1 + 1, 0, none⟩ (.int .i64 0)) :=
          (((Far.refl _ W).setCell (fun _ => .inl rfl) _).setCell (fun _ => .inr (.inl rfl)) _).setCell (fun _ => .inr (.inr rfl)) _
        refine split_done p _ (.slice ao n' cap) 0 0 _ x0 x1 ⟨_, _, _, rfl⟩ x2 hp3 (hf.heap HK.out (by omega)) rfl rfl rfl rfl ?_
        intro W' hf'
        refine ⟨⟨_, by rw [HSP.out], ?_⟩, ((Q7.out.trans (hf.to_below Q7.out.size (by intro i hi h; omega)))).trans (hf'.to_below (Nat.le_trans Q7.out.size hf.size) (by intro i hi h; omega))⟩
        rw [HSP.out]
        have h := ownsRow_far (ownsRow_far Q2.out hf (by intro k h1 h2 h; omega)) hf' (by intro k h1 h2 h; omega)
        exact World.ownsRow.base_le h (by omega)
      case stop =>
        rintro c W ⟨rfl, q0, q3, q4, q5, q7⟩ hK
        rw [HS1.out] at hK ⊢
        have hsp : Ln.split s.data.toList = ([], Ln.bad 1 (Ln.rows s.data.toList)) := by
          unfold Ln.split
          rw [if_neg (by rw [text_size]; omega), if_neg (by rw [hrt]; simp), if_neg q0]
        have HK := Lib.hid hK
        have Q3 := Lib.hid q3
        have Q4 := Lib.hid q4
        have Q5 := Lib.hid q5
        have Q7 := Lib.hid q7
        have HSP := Lib.hid hsp
        clear q3 q4 q5 q7 hK hsp
        refine wpIn_wide.2 ?_
        go_wp2_with fail
        refine split_done p W (.slice none 0 0) _ _ _ Q3.out Q4.out ⟨_, _, _, rfl⟩ Q5.out hp3 HK.out rfl rfl rfl rfl ?_
        intro W' hf'
        refine ⟨⟨_, by rw [HSP.out], ?_⟩, Q7.out.trans (hf'.to_below Q7.out.size (by intro i hi h; omega))⟩
        rw [HSP.out]
        exact World.ownsRow_nil _ _ _ _
end Go.Proofs.YtofikmdfiimbbaaDoor
