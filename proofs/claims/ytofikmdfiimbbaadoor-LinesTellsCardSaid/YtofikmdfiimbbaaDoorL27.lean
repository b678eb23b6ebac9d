/- Marks and rows, the document's way. -/
import Derived.Test.YtofikmdfiimbbaaDoorL25
import Derived.Test.YtofikmdfiimbbaaDoorL7
set_option linter.unusedVariables false
set_option linter.unusedSimpArgs false
namespace Go.Proofs.YtofikmdfiimbbaaDoor
open Go.RowKit
theorem front_at (s : ByteArray) (k : Nat) (h : k ≤ s.size) (e : Int) (he : e = (k : Int)) (w : World) : (Instr.slice 9 (.string s) none (some (.int .i64 e)) none).run Tryd.prog w = .ok (.string (s.extract 0 k)) w := by
  subst he
  rw [run_slice_string_to_if (P := Tryd.prog) w 9 s .i64 _ Tryd.underlying9, if_pos (by omega)]
  rfl
theorem mark_nums (L : Ln.B) : Ln.markB L = (decide (3 ≤ L.length) && ((decide (L.take 3 = [45, 45, 45]) || decide (L.take 3 = [46, 46, 46])) && (decide (L.length = 3) || decide (Ln.nat L 3 = 32)))) := by
  match L with
  | [] => rfl
  | [a] => simp [Ln.markB, List.isPrefixOf]
  | [a, b] => simp [Ln.markB, List.isPrefixOf]
  | [a, b, c] => rw [Bool.eq_iff_iff]; simp [Ln.markB, List.isPrefixOf, eq_comm (a := (45 : UInt8)), eq_comm (a := (46 : UInt8))]
  | a :: b :: c :: d :: S =>
    have e : (d = 32) = (Ln.nat (a :: b :: c :: d :: S) 3 = 32) := propext ⟨fun h => by rw [h]; rfl, fun h => UInt8.toNat_inj.1 h⟩
    rw [Bool.eq_iff_iff]; simp [Ln.markB, List.isPrefixOf, eq_comm (a := (45 : UInt8)), eq_comm (a := (46 : UInt8)), e]
set_option maxRecDepth 100000 in
set_option maxHeartbeats 2000000 in
theorem mark24_any (s : ByteArray) (hs : s.size ≤ 1000000) (w : World) : Calls Tryd.prog 24 #[.string s] w fun e w' => e = .returned (.bool (Ln.markB s.data.toList)) ∧ w' = w := by
  rw [mark_nums, text_size]
  by_cases h3 : s.size < 3
  · have i0 : (s.size : Int) < 3 := by omega
    rw [decide_eq_false (show ¬ 3 ≤ s.size by omega)]
    go_enter Tryd.func24, Tryd.ntmps24
    go_wp2_with fail
    go_ret
    exact ⟨rfl, rfl⟩
  · have i0 : ¬ (s.size : Int) < 3 := by omega
    rw [decide_eq_true (show 3 ≤ s.size by omega), Bool.true_and]
    obtain ⟨X, hX⟩ : ∃ X, s.extract 0 3 = X := ⟨_, rfl⟩
    have hXl : X.data.toList = s.data.toList.take 3 := by rw [← hX]; have := extract_list s 0 3; rw [List.drop_zero] at this; exact this
    have hsl := fun w => front_at s 3 (by omega) 3 rfl w
    rw [hX] at hsl
    obtain ⟨a, ha⟩ : ∃ a, decide (s.data.toList.take 3 = [45, 45, 45]) = a := ⟨_, rfl⟩
    obtain ⟨b, hb⟩ : ∃ b, decide (s.data.toList.take 3 = [46, 46, 46]) = b := ⟨_, rfl⟩
    have ea : (X.toList == [45, 45, 45]) = a := by rw [ByteArray.toList_eq, hXl, ← ha, Bool.eq_iff_iff]; simp
    have eb : (X.toList == [46, 46, 46]) = b := by rw [ByteArray.toList_eq, hXl, ← hb, Bool.eq_iff_iff]; simp
    rw [ha, hb]
    have hi : ∀ (h : 3 < s.size) (w : World), (Instr.index 9 (.string s) (.int .i64 3)).run Tryd.prog w = .ok (.int .u8 (Ln.nat s.data.toList 3 : Nat)) w := fun h w => idx9 s 3 3 rfl h w
    generalize Ln.nat s.data.toList 3 = c at hi ⊢
    clear hX hXl ha hb
    have tail : (a || b) = true → Calls Tryd.prog 24 #[.string s] w fun e w' => e = .returned (.bool (decide (s.size = 3) || decide (c = 32))) ∧ w' = w := by
      intro hab
      by_cases h4 : s.size = 3
      · have i1 : (s.size : Int) = 3 := by omega
        rw [decide_eq_true h4]
        clear hi
        cases a with
        | true =>
          go_enter Tryd.func24, Tryd.ntmps24
          go_wp2_with fail
          go_ret
          exact ⟨rfl, rfl⟩
        | false =>
          rw [Bool.false_or] at hab
          subst hab
          go_enter Tryd.func24, Tryd.ntmps24
          go_wp2_with fail
          go_ret
          exact ⟨rfl, rfl⟩
      · have i1 : ¬ (s.size : Int) = 3 := by omega
        have hi2 := hi (by omega)
        clear hi
        have i2 : ((s.size : Int) == 3) = false := by simpa using i1
        rw [decide_eq_false h4, Bool.false_or]
        have hc : ((c : Int) == 32) = decide (c = 32) := by
          rw [Bool.eq_iff_iff]
          simp only [beq_iff_eq, decide_eq_true_eq]
          omega
        cases a with
        | true =>
          go_enter Tryd.func24, Tryd.ntmps24
          go_wp2_with fail
          go_ret
          exact ⟨by simp [hc], rfl⟩
        | false =>
          rw [Bool.false_or] at hab
          subst hab
          go_enter Tryd.func24, Tryd.ntmps24
          go_wp2_with fail
          go_ret
          exact ⟨by simp [hc], rfl⟩
    by_cases hab : (a || b) = true
    · rw [hab, Bool.true_and]
      exact tail hab
    · obtain ⟨rfl, rfl⟩ : a = false ∧ b = false := by cases a <;> cases b <;> simp_all
      clear tail hi hab
      go_enter Tryd.func24, Tryd.ntmps24
      go_wp2_with fail
      go_ret
      exact ⟨rfl, rfl⟩
theorem info9 : (Tryd.prog.info? 9).map (fun i => (i.zero, i.size, i.bytes)) = some (some (.string ⟨#[]⟩), 1, 16) := by kernel_rfl
def textCells (l : List Ln.B) : List Value := l.map fun r => Value.string ⟨r.toArray⟩
theorem textCells_one (l : List Ln.B) : ∀ u ∈ textCells l, u.oneCell' = true := by
  intro u hu
  obtain ⟨n, _, rfl⟩ := List.mem_map.1 hu
  rfl
theorem mk_list (T : ByteArray) : (⟨T.data.toList.toArray⟩ : ByteArray) = T := by
  apply ByteArray.ext
  simp
theorem nat_is (s : ByteArray) (i : Nat) (c : UInt8) (h : s.data.toList[i]? = some c) : Ln.nat s.data.toList i = c.toNat := by
  unfold Ln.nat
  rw [List.getD_eq_getElem?_getD, h]
  rfl
theorem piece_no (L : Ln.B) (f i : Nat) (h : ∀ j, f ≤ j → j < i → Ln.nat L j ≠ 10) : ∀ b ∈ (L.drop f).take (i - f), b ≠ 10 := by
  intro b hb e
  obtain ⟨j, hj⟩ := List.mem_iff_getElem?.1 hb
  rw [List.getElem?_take] at hj
  split at hj
  · rw [List.getElem?_drop] at hj
    refine h (f + j) (by omega) (by omega) ?_
    unfold Ln.nat
    rw [List.getD_eq_getElem?_getD, hj, e]
    rfl
  · simp at hj
theorem drop_piece (L : Ln.B) (f i : Nat) (hf : f ≤ i) (hi : i < L.length) (h : Ln.nat L i = 10) : L.drop f = (L.drop f).take (i - f) ++ 10 :: L.drop (i + 1) := by
  have e : (L.drop f).drop (i - f) = 10 :: L.drop (i + 1) := by
    rw [List.drop_drop, show f + (i - f) = i by omega, List.drop_eq_getElem_cons hi]
    congr 1
    apply UInt8.toNat_inj.1
    rw [Ln.nat_get, h]
    rfl
  rw [← e, List.take_append_drop]
set_option maxRecDepth 100000 in
set_option maxHeartbeats 2000000 in
theorem rows23_any (s : ByteArray) (hs : s.size ≤ 100000) (R : List Ln.B) (hR : Ln.rows s.data.toList = R) (w : World) :
    Calls Tryd.prog 23 #[.string s] w fun e w' => (∃ v, e = .returned v ∧ w'.ownsRow w.heap.size 9 1 v R.length (textCells R)) ∧ Below w.heap.size w w' := by
  obtain ⟨ti, hi, hz0, hz1, hz2⟩ := info_parts info9
  have Hi := Lib.hid hi
  have Hz0 := Lib.hid hz0
  have Hz1 := Lib.hid hz1
  have Hz2 := Lib.hid hz2
  have hRz := Ln.rows_size s.data.toList
  rw [hR, text_size] at hRz
  have HR := Lib.hid hR
  clear hi hz0 hz1 hz2 hR
  go_enter Tryd.func23, Tryd.ntmps23
  go_wp2_with fail
  go_loopw [3, 4, 5] (fun v f i W => ∃ (q p : Nat) (D : List Ln.B), q ≤ p ∧ p ≤ s.size ∧ f = .int .i64 (q : Int) ∧ i = .int .i64 (p : Int) ∧ W.ownsRow w.heap.size 9 1 v D.length (textCells D) ∧ R = D ++ Ln.rows (s.data.toList.drop q) ∧ (∀ j, q ≤ j → j < p → Ln.nat s.data.toList j ≠ 10) ∧ Below w.heap.size w W) (fun _ _ i _ => s.size - (Lib.intOf i).toNat)
  case atStart => exact ⟨0, 0, [], Nat.le_refl _, Nat.zero_le _, rfl, rfl, World.ownsRow_nil _ _ _ _, by rw [List.drop_zero, HR.out]; rfl, fun j _ h => absurd h (by omega), Below.refl _ _⟩
  case round =>
    obtain ⟨q, p, D, hqp, hps, rfl, rfl, hrow, hsp, hno, hbl⟩ := hrel
    have hDz : D.length ≤ 100000 := by
      have := congrArg List.length hsp
      rw [List.length_append] at this
      omega
    have Hrow := Lib.hid hrow
    have Hsp := Lib.hid hsp
    have Hno := Lib.hid hno
    have Hbl := Lib.hid hbl
    clear hrow hsp hno hbl
    have hn1 : D.length + 1 ≤ maxLen := by unfold maxLen; omega
    have hn2 : (D.length + 1) * 16 ≤ 140737488355328 := by omega
    by_cases hp : p < s.size
    · have i0 : (p : Int) < (s.size : Int) := by omega
      obtain ⟨c, hc⟩ : ∃ c, Ln.nat s.data.toList p = c := ⟨_, rfl⟩
      have hix := fun w => idx9 s (p : Int) p rfl hp w
      rw [hc] at hix
      have v1 : IntKind.i64.wrap ((p : Int) + 1) = (p : Int) + 1 := IntWalk.i64_in _ (by omega)
      have HC := Lib.hid hc
      clear hc
      by_cases h10 : c = 10
      · subst h10
        obtain ⟨T, hT⟩ : ∃ T, s.extract q (q + (p - q)) = T := ⟨_, rfl⟩
        have hTl : T.data.toList = (s.data.toList.drop q).take (p - q) := by rw [← hT]; exact extract_list s q (p - q)
        have hsl := fun w => slice_at s q (p - q) (by omega) (p : Int) (by omega) w
        rw [hT] at hsl
        have hnew : Ln.rows (s.data.toList.drop q) = T.data.toList :: Ln.rows (s.data.toList.drop (p + 1)) := by
          rw [hTl]
          conv => lhs; rw [drop_piece s.data.toList q p hqp (by rw [text_size]; exact hp) HC.out]
          exact Ln.rows_row _ _ (piece_no _ q p Hno.out)
        have hcells : ∀ (j : Nat) (u : Value), [Value.string T][j]? = some u → (wr.alloc (.cells #[.string T] 9)).cell? ((⟨wr.heap.size, 0, none⟩ : Addr).add j) = some u := by
          intro j u hj
          have hadd : (⟨wr.heap.size, 0, none⟩ : Addr).add j = ⟨wr.heap.size, j, none⟩ := by unfold Addr.add; split <;> simp_all
          rw [hadd, cell_of (alloc_heap _ _) j]
          simpa using hj
        have hsz1 := Hbl.out.size
        have hbs : w.heap.size ≤ (wr.alloc (.cells #[.string T] 9)).heap.size := by simp; omega
        have HNW := Lib.hid hnew
        clear hnew hTl hT
        go_wp2_with (at_builtin; refine wpList_append_own _ rfl (.tmp 16) (.tmp 21) 53 rfl w.heap.size 9 ti _ 1 16 Tryd.underlying53 Hi.out Hz0.out Hz1.out Hz2.out rfl (by decide) _ D.length (textCells D) rfl (Hrow.out.alloc _) ⟨wr.heap.size, 0, none⟩ 1 1 [.string T] rfl rfl hcells (by simp [Value.oneCell']) hn1 hn2 hbs ?_; intro v' w2 hown' hgrow _; have Hown := Lib.hid hown'; have Hgrow := Lib.hid hgrow; clear hown' hgrow)
        go_roundw
        case rel =>
          refine ⟨p + 1, p + 1, D ++ [T.data.toList], Nat.le_refl _, by omega, by simp, by simp, ?_, ?_, fun j _ h => absurd h (by omega), ?_⟩
          · have := Hown.out
            simp only [List.length_append, List.length_singleton, textCells, List.map_append, List.map_cons, List.map_nil, mk_list] at this ⊢
            exact this
          · rw [Hsp.out, HNW.out]; simp
          · exact (Hbl.out.alloc hsz1 _).grown Hgrow.out hbs (fun k e => (Hrow.out.lt k e).1)
        case measure => simp [Lib.intOf]; omega
      · have i1 : ¬ (c : Int) = 10 := by omega
        have hno2 : ∀ j, q ≤ j → j < p + 1 → Ln.nat s.data.toList j ≠ 10 := by
          intro j h1 h2
          by_cases h : j = p
          · subst h; rw [HC.out]; exact h10
          · exact Hno.out j h1 (by omega)
        have HN2 := Lib.hid hno2
        clear hno2
        go_wp2_with fail
        go_roundw
        case rel => exact ⟨q, p + 1, D, by omega, by omega, by simp, by simp, Hrow.out, Hsp.out, HN2.out, Hbl.out⟩
        case measure => simp [Lib.intOf]; omega
    · have i0 : ¬ (p : Int) < (s.size : Int) := by omega
      obtain rfl : p = s.size := by omega
      by_cases hq : q < s.size
      · have i1 : (q : Int) < (s.size : Int) := by omega
        obtain ⟨T, hT⟩ : ∃ T, s.extract q s.size = T := ⟨_, rfl⟩
        have hTl : T.data.toList = s.data.toList.drop q := by
          have h := extract_list s q (s.size - q)
          rw [show q + (s.size - q) = s.size by omega, hT, List.take_of_length_le (by rw [List.length_drop, text_size]; exact Nat.le_refl _)] at h
          exact h
        have hsl : ∀ w, (Instr.slice 9 (.string s) (some (.int .i64 (q : Int))) none none).run Tryd.prog w = .ok (.string T) w := by
          intro w
          rw [run_slice_string_from_if (P := Tryd.prog) w 9 s .i64 _ Tryd.underlying9, if_pos (by omega), ← hT]
          rfl
        have hnew : Ln.rows (s.data.toList.drop q) = [T.data.toList] := by
          rw [hTl]
          refine Ln.rows_last _ (fun e => ?_) ?_
          · have := congrArg List.length e
            rw [List.length_drop, text_size, List.length_nil] at this
            omega
          · have := piece_no s.data.toList q s.size Hno.out
            rw [List.take_of_length_le (by rw [List.length_drop, text_size]; exact Nat.le_refl _)] at this
            exact this
        have hcells : ∀ (j : Nat) (u : Value), [Value.string T][j]? = some u → (wr.alloc (.cells #[.string T] 9)).cell? ((⟨wr.heap.size, 0, none⟩ : Addr).add j) = some u := by
          intro j u hj
          have hadd : (⟨wr.heap.size, 0, none⟩ : Addr).add j = ⟨wr.heap.size, j, none⟩ := by unfold Addr.add; split <;> simp_all
          rw [hadd, cell_of (alloc_heap _ _) j]
          simpa using hj
        have hsz1 := Hbl.out.size
        have hbs : w.heap.size ≤ (wr.alloc (.cells #[.string T] 9)).heap.size := by simp; omega
        have HNW := Lib.hid hnew
        clear hnew hTl hT
        go_wp2_with (at_builtin; refine wpList_append_own _ rfl (.tmp 29) (.tmp 33) 53 rfl w.heap.size 9 ti _ 1 16 Tryd.underlying53 Hi.out Hz0.out Hz1.out Hz2.out rfl (by decide) _ D.length (textCells D) rfl (Hrow.out.alloc _) ⟨wr.heap.size, 0, none⟩ 1 1 [.string T] rfl rfl hcells (by simp [Value.oneCell']) hn1 hn2 hbs ?_; intro v' w2 hown' hgrow _; have Hown := Lib.hid hown'; have Hgrow := Lib.hid hgrow; clear hown' hgrow)
        go_ret
        refine ⟨⟨_, rfl, ?_⟩, (Hbl.out.alloc hsz1 _).grown Hgrow.out hbs (fun k e => (Hrow.out.lt k e).1)⟩
        have e : R = D ++ [T.data.toList] := by rw [Hsp.out, HNW.out]
        have := Hown.out
        rw [e]
        simp only [List.length_append, List.length_singleton, textCells, List.map_append, List.map_cons, List.map_nil, mk_list] at this ⊢
        exact this
      · have i1 : ¬ (q : Int) < (s.size : Int) := by omega
        have e : R = D := by rw [Hsp.out, List.drop_eq_nil_of_le (by rw [text_size]; omega)]; simp [Ln.rows]
        have HE := Lib.hid e
        clear e
        go_wp2_with fail
        go_ret
        exact ⟨⟨_, rfl, by rw [HE.out]; exact Hrow.out⟩, Hbl.out⟩
end Go.Proofs.YtofikmdfiimbbaaDoor
