/- A text's signs. -/
import Derived.Test.YtofikmdfiimbbaaDoorL23
import Derived.OwnWalk
set_option linter.unusedVariables false
set_option linter.unusedSimpArgs false
namespace Go.Proofs.YtofikmdfiimbbaaDoor
open Go.RowKit
theorem info3 : (Tryd.prog.info? 3).map (fun i => (i.zero, i.size, i.bytes)) = some (some (.int .i64 0), 1, 8) := by kernel_rfl
def natCells (l : List Nat) : List Value := l.map fun (n : Nat) => Value.int .i64 (n : Int)
theorem natCells_one (l : List Nat) : ∀ u ∈ natCells l, u.oneCell' = true := by
  intro u hu
  obtain ⟨n, _, rfl⟩ := List.mem_map.1 hu
  rfl
set_option maxRecDepth 100000 in
set_option maxHeartbeats 2000000 in
theorem signs_any (s : ByteArray) (hs : s.size ≤ 100000) (R P : Bool) (hR : Ln.right s.data.toList = R) (hP : Ln.plainB s.data.toList = P) (w : World) :
    Calls Tryd.prog 29 #[.string s] w fun e w' => (if R then ∃ v rs, e = .returned (.tuple #[v, .int .i64 0]) ∧ w'.ownsRow w.heap.size 3 1 v rs.length (natCells rs) ∧ rs.length ≤ s.size ∧ rs.all plainN = P else e = .returned (.tuple #[.slice none 0 0, .int .i64 40])) ∧ Below w.heap.size w w' := by
  obtain ⟨ti, hi, hz0, hz1, hz2⟩ := info_parts info3
  have Hi := Lib.hid hi
  have Hz0 := Lib.hid hz0
  have Hz1 := Lib.hid hz1
  have Hz2 := Lib.hid hz2
  have HR := Lib.hid hR
  have HP := Lib.hid hP
  clear hi hz0 hz1 hz2 hR hP
  go_enter Tryd.func29, Tryd.ntmps29
  go_wp2_with fail
  go_loopw [4, 5] (fun v i W => ∃ (p : Nat) (rs : List Nat), p ≤ s.size ∧ i = .int .i64 (p : Int) ∧ rs.length ≤ p ∧ W.ownsRow w.heap.size 3 1 v rs.length (natCells rs) ∧ Ln.right (s.data.toList.drop p) = R ∧ (rs.all plainN && Ln.plainB (s.data.toList.drop p)) = P ∧ Below w.heap.size w W) (fun _ i _ => s.size - (Lib.intOf i).toNat)
  case atStart => exact ⟨0, [], by omega, rfl, by simp, World.ownsRow_nil _ _ _ _, by rw [List.drop_zero]; exact HR.out, by rw [List.drop_zero, HP.out]; rfl, Below.refl _ _⟩
  case round =>
    obtain ⟨p, rs, hple, rfl, hrl, hrow, hr, hpl, hbl⟩ := hrel
    have HR2 := Lib.hid hr
    have HP2 := Lib.hid hpl
    have Hrow := Lib.hid hrow
    have Hbl := Lib.hid hbl
    clear hr hpl hrow hbl
    by_cases hp : p < s.size
    · have i0 : (p : Int) < (s.size : Int) := by omega
      have hne : s.data.toList.drop p ≠ [] := by
        intro e
        have := congrArg List.length e
        simp only [List.length_drop, text_size, List.length_nil] at this
        omega
      have hod := Ln.one_dec _ hne
      have hdp := Ln.dec_pos (s.data.toList.drop p)
      have hdl := Ln.dec_le _ hne
      simp only [List.length_drop, text_size] at hdl
      by_cases hbad : Ln.dec (s.data.toList.drop p) = (65533, 1)
      · rw [if_pos hbad] at hod
        have hcall := fun w => one_any s p hp hs 0 0 hod w
        obtain rfl : R = false := by rw [← HR2.out]; exact Ln.right_bad _ hne hbad
        have HC := Lib.hid hcall
        clear hcall hod hdp hdl hbad hne
        go_wp2_with fail
        refine (HC.out _).mono ?_
        rintro e w1 ⟨rfl, hb1⟩
        have HB1 := Lib.hid hb1
        clear hb1
        go_wp2_with fail
        go_ret2
        exact ⟨rfl, Hbl.out.trans (HB1.out.mono Hbl.out.size)⟩
      · rw [if_neg hbad] at hod
        obtain ⟨r, hrr⟩ : ∃ r, (Ln.dec (s.data.toList.drop p)).1 = r := ⟨_, rfl⟩
        obtain ⟨n, hnn⟩ : ∃ n, (Ln.dec (s.data.toList.drop p)).2 = n := ⟨_, rfl⟩
        have hrn : Ln.dec (s.data.toList.drop p) = (r, n) := by rw [← hrr, ← hnn]
        rw [hrn] at hod hdp hdl
        simp only at hdp hdl
        have hcall := fun w => one_any s p hp hs r n hod w
        have hr2 : Ln.right (s.data.toList.drop (p + n)) = R := by
          rw [← HR2.out, Ln.right_step _ hne hbad, hnn, List.drop_drop]
        have hp2 : ((rs ++ [r]).all plainN && Ln.plainB (s.data.toList.drop (p + n))) = P := by
          rw [← HP2.out, List.all_append, Bool.and_assoc]
          congr 1
          by_cases hc : (Ln.dec (s.data.toList.drop p)).1 < 32 ∨ (Ln.dec (s.data.toList.drop p)).1 = 127
          · rw [Ln.plain_bad _ hne hc]
            have : plainN r = false := by unfold plainN; rw [← hrr]; simp only [Bool.and_eq_false_iff, decide_eq_false_iff_not]; omega
            simp [this]
          · rw [Ln.plain_step _ hne hc, hnn, List.drop_drop]
            have : plainN r = true := by unfold plainN; rw [← hrr]; simp only [Bool.and_eq_true, decide_eq_true_eq]; omega
            simp [this]
        have i1 : ¬ (n : Int) = 0 := by omega
        have hpn : IntKind.i64.wrap ((p : Int) + (n : Int)) = ((p + n : Nat) : Int) := by rw [IntWalk.i64_in _ (by omega)]; omega
        have HC := Lib.hid hcall
        have HR3 := Lib.hid hr2
        have HP3 := Lib.hid hp2
        clear hcall hod hr2 hp2 hbad hne hrr hnn hrn
        go_wp2_with fail
        refine (HC.out _).mono ?_
        rintro e w1 ⟨rfl, hb1⟩
        have hrow1 := ownsRow_far Hrow.out (Far.of_below hb1 (fun _ => False)) (fun _ _ _ h => h)
        have Hrow1 := Lib.hid hrow1
        have HB1 := Lib.hid hb1
        have hsz1 : w.heap.size ≤ w1.heap.size := Nat.le_trans Hbl.out.size hb1.size
        have hbs : w.heap.size ≤ (w1.alloc (.cells #[.int .i64 (r : Int)] 3)).heap.size := by simp; omega
        have hn1 : rs.length + 1 ≤ maxLen := by unfold maxLen; omega
        have hn2 : (rs.length + 1) * 8 ≤ 140737488355328 := by omega
        have hcells : ∀ (j : Nat) (u : Value), [Value.int .i64 (r : Int)][j]? = some u → (w1.alloc (.cells #[.int .i64 (r : Int)] 3)).cell? ((⟨w1.heap.size, 0, none⟩ : Addr).add j) = some u := by
          intro j u hj
          have hadd : (⟨w1.heap.size, 0, none⟩ : Addr).add j = ⟨w1.heap.size, j, none⟩ := by unfold Addr.add; split <;> simp_all
          rw [hadd, cell_of (alloc_heap _ _) j]
          simpa using hj
        clear hrow1 hb1
        go_wp2_with (at_builtin; refine wpList_append_own _ rfl (.tmp 20) (.tmp 22) 66 rfl w.heap.size 3 ti _ 1 8 Tryd.underlying66 Hi.out Hz0.out Hz1.out Hz2.out rfl (by decide) _ rs.length (natCells rs) rfl (Hrow1.out.alloc _) ⟨w1.heap.size, 0, none⟩ 1 1 [.int .i64 (r : Int)] rfl rfl hcells (natCells_one [r]) hn1 hn2 hbs ?_; intro v' w2 hown' hgrow _; have Hown := Lib.hid hown'; have Hgrow := Lib.hid hgrow; clear hown' hgrow)
        go_roundw
        case rel =>
          refine ⟨p + n, rs ++ [r], by omega, rfl, by simp; omega, ?_, HR3.out, HP3.out, ?_⟩
          · have := Hown.out
            simp only [List.length_append, List.length_singleton, natCells, List.map_append, List.map_cons, List.map_nil] at this ⊢
            exact this
          · have h1 : Below w.heap.size w (w1.alloc (.cells #[.int .i64 (r : Int)] 3)) := (Hbl.out.trans (HB1.out.mono Hbl.out.size)).alloc hsz1 _
            exact h1.grown Hgrow.out hbs (fun k e => (Hrow1.out.lt k e).1)
        case measure => simp [Lib.intOf]; omega
    · have i0 : ¬ (p : Int) < (s.size : Int) := by omega
      have hnil : s.data.toList.drop p = [] := List.drop_eq_nil_of_le (by rw [text_size]; omega)
      obtain rfl : R = true := by rw [← HR2.out, hnil, Ln.right_nil]
      have hall : rs.all plainN = P := by have := HP2.out; rw [hnil, Ln.plain_nil, Bool.and_true] at this; exact this
      go_wp2_with fail
      go_ret2
      exact ⟨⟨_, rfl, rs, Hrow.out, by omega, hall⟩, Hbl.out⟩
end Go.Proofs.YtofikmdfiimbbaaDoor
