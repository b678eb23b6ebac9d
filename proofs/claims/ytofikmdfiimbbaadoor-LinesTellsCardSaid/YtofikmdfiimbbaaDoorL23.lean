/- The sign at a place, whatever stands there; whether a sign is plain. -/
import Derived.Test.YtofikmdfiimbbaaDoorL22
set_option linter.unusedVariables false
set_option linter.unusedSimpArgs false
namespace Go.Proofs.YtofikmdfiimbbaaDoor
open Go.RowKit
theorem extract_list (s : ByteArray) (p k : Nat) : (s.extract p (p + k)).data.toList = (s.data.toList.drop p).take k := by
  rw [ByteArray.data_extract, Array.toList_extract, List.extract_eq_take_drop, Nat.add_sub_cancel_left]
theorem slice_at (s : ByteArray) (p k : Nat) (h : p + k ≤ s.size) (e : Int) (he : e = (p : Int) + (k : Int)) (w : World) : (Instr.slice 9 (.string s) (some (.int .i64 (p : Int))) (some (.int .i64 e)) none).run Tryd.prog w = .ok (.string (s.extract p (p + k))) w := by
  subst he
  exact run_slice_string (P := Tryd.prog) w 9 s .i64 .i64 _ _ Tryd.underlying9 (by omega) (by omega) (by omega)
theorem one_any (s : ByteArray) (p : Nat) (hp : p < s.size) (hs : s.size ≤ 100000) (r n : Nat) (hrn : Ln.oneD (s.data.toList.drop p) = (r, n)) (w : World) :
    Calls Tryd.prog 45 #[.string s, .int .i64 (p : Int)] w fun e w' => e = .returned (.tuple #[.int .i64 (r : Int), .int .i64 (n : Int)]) ∧ Below w.heap.size w w' := by
  obtain ⟨L, hL⟩ : ∃ L, s.data.toList = L := ⟨_, rfl⟩
  have hlen : (L.drop p).length = s.size - p := by rw [List.length_drop, ← hL, text_size]
  have hb : ∀ (j : Nat) (i : Int), i = ((p + j : Nat) : Int) → p + j < s.size → ∀ w, (Instr.index 9 (.string s) (.int .i64 i)).run Tryd.prog w = .ok (.int .u8 (Ln.nat (L.drop p) j : Nat)) w := by
    intro j i hi hj w
    rw [nat_drop, ← hL]
    exact idx9 s i (p + j) hi hj w
  have hext : ∀ k, (s.extract p (p + k)).data.toList = (L.drop p).take k := fun k => by rw [extract_list, hL]
  have n0 := Ln.nat_lt (L.drop p) 0
  have n1 := Ln.nat_lt (L.drop p) 1
  have n2 := Ln.nat_lt (L.drop p) 2
  have n3 := Ln.nat_lt (L.drop p) 3
  rw [hL] at hrn
  have hb0 := hb 0 (p : Int) (by omega) (by omega)
  have close : ∀ (v k : Nat) (e : Ending), Ln.val (L.drop p) = v → Ln.wid (Ln.nat (L.drop p) 0) = k → k ≤ s.size - p → (e = if Ln.signB v && decide (Ln.bytesL v = (L.drop p).take k) then .returned (.tuple #[.int .i64 (v : Int), .int .i64 (k : Int)]) else .returned (.tuple #[.int .i64 0, .int .i64 0])) → e = .returned (.tuple #[.int .i64 (r : Int), .int .i64 (n : Int)]) := by
    intro v k e hv hk hle he
    unfold Ln.oneD at hrn
    rw [if_neg (by rw [hlen, hk]; omega), hv, hk] at hrn
    rw [he]
    by_cases hc : (Ln.signB v && decide (Ln.bytesL v = (L.drop p).take k)) = true
    · rw [if_pos hc] at hrn ⊢
      simp only [Prod.mk.injEq] at hrn
      rw [hrn.1, hrn.2]
    · rw [if_neg hc] at hrn ⊢
      simp only [Prod.mk.injEq] at hrn
      rw [← hrn.1, ← hrn.2]
      rfl
  have shut : ∀ (k : Nat) (e : Ending), Ln.wid (Ln.nat (L.drop p) 0) = k → s.size < p + k → e = .returned (.tuple #[.int .i64 0, .int .i64 0]) → e = .returned (.tuple #[.int .i64 (r : Int), .int .i64 (n : Int)]) := by
    intro k e hk hle he
    unfold Ln.oneD at hrn
    rw [if_pos (by rw [hlen, hk]; omega)] at hrn
    simp only [Prod.mk.injEq] at hrn
    rw [he, ← hrn.1, ← hrn.2]
    rfl
  by_cases e1 : Ln.nat (L.drop p) 0 < 192
  · refine (one_w1 s p hp hs _ n0 hb0 e1 (s.extract p (p + 1)) (fun w => slice_at s p 1 (by omega) _ rfl w) _ rfl _ rfl w).mono ?_
    rintro e w1 ⟨he, hbl⟩
    refine ⟨close (Ln.nat (L.drop p) 0) 1 e ?_ ?_ (by omega) ?_, hbl⟩
    · unfold Ln.val; simp only; rw [if_neg (by omega), if_neg (by omega), if_neg (by omega)]
    · unfold Ln.wid; rw [if_neg (by omega), if_neg (by omega), if_neg (by omega)]
    · rw [he, hext]; rfl
  · by_cases e2 : Ln.nat (L.drop p) 0 < 224
    · have hw : Ln.wid (Ln.nat (L.drop p) 0) = 2 := by unfold Ln.wid; rw [if_neg (by omega), if_neg (by omega), if_pos (by omega)]
      by_cases g : s.size < p + 2
      · refine (short_w2 s p hp hs _ hb0 n0 (by omega) e2 g w).mono ?_
        rintro e w1 ⟨he, hbl⟩
        exact ⟨shut 2 e hw g he, hbl⟩
      · have hv : Ln.val (L.drop p) = (Ln.nat (L.drop p) 0 - 192) * 64 + Ln.nat (L.drop p) 1 % 64 := by unfold Ln.val; simp only; rw [if_neg (by omega), if_neg (by omega), if_pos (by omega)]
        refine (one_w2 s p hs _ _ hb0 (hb 1 _ (by omega) (by omega)) n0 n1 (by omega) e2 (by omega) (s.extract p (p + 2)) (fun w => slice_at s p 2 (by omega) _ rfl w) (Ln.val (L.drop p)) (by rw [hv]; omega) _ rfl _ rfl w).mono ?_
        rintro e w1 ⟨he, hbl⟩
        exact ⟨close _ 2 e rfl hw (by omega) (by rw [he, hext]; rfl), hbl⟩
    · by_cases e3 : Ln.nat (L.drop p) 0 < 240
      · have hw : Ln.wid (Ln.nat (L.drop p) 0) = 3 := by unfold Ln.wid; rw [if_neg (by omega), if_pos (by omega)]
        by_cases g : s.size < p + 3
        · refine (short_w3 s p hp hs _ hb0 n0 (by omega) e3 g w).mono ?_
          rintro e w1 ⟨he, hbl⟩
          exact ⟨shut 3 e hw g he, hbl⟩
        · have hv : Ln.val (L.drop p) = (Ln.nat (L.drop p) 0 - 224) * 64 * 64 + (Ln.nat (L.drop p) 1 % 64) * 64 + Ln.nat (L.drop p) 2 % 64 := by unfold Ln.val; simp only; rw [if_neg (by omega), if_pos (by omega)]
          refine (one_w3 s p hs _ _ _ hb0 (hb 1 _ (by omega) (by omega)) (hb 2 _ (by omega) (by omega)) n0 n1 n2 (by omega) e3 (by omega) (s.extract p (p + 3)) (fun w => slice_at s p 3 (by omega) _ rfl w) (Ln.val (L.drop p)) (by rw [hv]; omega) _ rfl _ rfl w).mono ?_
          rintro e w1 ⟨he, hbl⟩
          exact ⟨close _ 3 e rfl hw (by omega) (by rw [he, hext]; rfl), hbl⟩
      · have hw : Ln.wid (Ln.nat (L.drop p) 0) = 4 := by unfold Ln.wid; rw [if_pos (by omega)]
        by_cases g : s.size < p + 4
        · refine (short_w4 s p hp hs _ hb0 n0 (by omega) (by omega) g w).mono ?_
          rintro e w1 ⟨he, hbl⟩
          exact ⟨shut 4 e hw g he, hbl⟩
        · have hv : Ln.val (L.drop p) = ((Ln.nat (L.drop p) 0 - 240) * 64 + Ln.nat (L.drop p) 1 % 64) * 64 * 64 + (Ln.nat (L.drop p) 2 % 64) * 64 + Ln.nat (L.drop p) 3 % 64 := by unfold Ln.val; simp only; rw [if_pos (by omega)]
          refine (one_w4 s p hs _ _ _ _ hb0 (hb 1 _ (by omega) (by omega)) (hb 2 _ (by omega) (by omega)) (hb 3 _ (by omega) (by omega)) n0 n1 n2 n3 (by omega) (by omega) (by omega) (s.extract p (p + 4)) (fun w => slice_at s p 4 (by omega) _ rfl w) (Ln.val (L.drop p)) (by rw [hv]; omega) _ rfl _ rfl w).mono ?_
          rintro e w1 ⟨he, hbl⟩
          exact ⟨close _ 4 e rfl hw (by omega) (by rw [he, hext]; rfl), hbl⟩
/-- A plain sign. -/
def plainN (n : Nat) : Bool := decide (32 ≤ n) && decide (n ≠ 127)
set_option maxRecDepth 100000 in
set_option maxHeartbeats 2000000 in
theorem plainN_any (n : Nat) (w : World) : Calls Tryd.prog 30 #[.int .i64 (n : Int)] w fun e w' => e = .returned (.bool (plainN n)) ∧ w' = w := by
  unfold plainN
  by_cases h1 : 32 ≤ n
  · have i1 : (32 : Int) ≤ (n : Int) := by omega
    by_cases h2 : n = 127
    · subst h2
      go_enter Tryd.func30, Tryd.ntmps30
      go_wp2_with fail
      go_ret
      exact ⟨rfl, rfl⟩
    · have i2 : ¬ (n : Int) = 127 := by omega
      rw [decide_eq_true h1, decide_eq_true (p := n ≠ 127) h2]
      go_enter Tryd.func30, Tryd.ntmps30
      go_wp2_with fail
      go_ret
      exact ⟨by simp [i2], rfl⟩
  · have i1 : ¬ (32 : Int) ≤ (n : Int) := by omega
    rw [decide_eq_false h1]
    go_enter Tryd.func30, Tryd.ntmps30
    go_wp2_with fail
    go_ret
    exact ⟨rfl, rfl⟩
end Go.Proofs.YtofikmdfiimbbaaDoor
