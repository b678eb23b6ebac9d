/- Marks. -/
import Derived.Test.YtofikmdfiimbbaaDoorGb
import Derived.Test.YtofikmdfiimbbaaDoorPc
set_option linter.unusedVariables false
set_option linter.unusedSimpArgs false
namespace Go.Proofs.YtofikmdfiimbbaaDoor
open Go.RowKit
theorem index89_0 (x y : ByteArray) (w : World) : (Instr.index 89 (.agg #[.string x, .string y]) (.int .i64 0)).run Tryd.prog w = .ok (.string x) w := by kernel_rfl
theorem index89_1 (x y : ByteArray) (w : World) : (Instr.index 89 (.agg #[.string x, .string y]) (.int .i64 1)).run Tryd.prog w = .ok (.string y) w := by kernel_rfl
attribute [local go_sem] index89_0 index89_1
set_option maxRecDepth 100000 in
set_option maxHeartbeats 2000000 in
theorem mark_nn (s : ByteArray) (w : World) (t1 : ByteArray) (hc1 : ∀ w, Calls Tryd.prog 48 #[.string s, .string ⟨#[45, 45, 45]⟩] w fun e w' => e = .returned (.tuple #[.string t1, .bool false]) ∧ w' = w) (t2 : ByteArray) (hc2 : ∀ w, Calls Tryd.prog 48 #[.string s, .string ⟨#[46, 46, 46]⟩] w fun e w' => e = .returned (.tuple #[.string t2, .bool false]) ∧ w' = w) : Calls Tryd.prog 35 #[.agg #[.string s]] w fun e w' => e = .returned (.bool false) ∧ Below w.heap.size w w' := by
  go_enter Tryd.func35, Tryd.ntmps35
  go_wp2_with fail
  refine wp_loop_rounds 3 ?_
  rw [rounds_succ]
  go_wp2_with fail
  refine (hc1 _).mono ?_
  rintro e w1 ⟨rfl, rfl⟩
  go_wp2_with fail
  rw [rounds_succ]
  go_wp2_with fail
  refine (hc2 _).mono ?_
  rintro e w1 ⟨rfl, rfl⟩
  go_wp2_with fail
  rw [rounds_succ]
  go_wp2_with fail
  go_ret
  exact ⟨rfl, (Below.refl _ _).alloc (Nat.le_refl _) _⟩
set_option maxRecDepth 100000 in
set_option maxHeartbeats 2000000 in
theorem mark_ne (s : ByteArray) (w : World) (t1 : ByteArray) (hc1 : ∀ w, Calls Tryd.prog 48 #[.string s, .string ⟨#[45, 45, 45]⟩] w fun e w' => e = .returned (.tuple #[.string t1, .bool false]) ∧ w' = w) (t2 : ByteArray) (hc2 : ∀ w, Calls Tryd.prog 48 #[.string s, .string ⟨#[46, 46, 46]⟩] w fun e w' => e = .returned (.tuple #[.string t2, .bool true]) ∧ w' = w) (he2 : t2.toList.isEmpty = true) : Calls Tryd.prog 35 #[.agg #[.string s]] w fun e w' => e = .returned (.bool true) ∧ Below w.heap.size w w' := by
  go_enter Tryd.func35, Tryd.ntmps35
  go_wp2_with fail
  refine wp_loop_rounds 3 ?_
  rw [rounds_succ]
  go_wp2_with fail
  refine (hc1 _).mono ?_
  rintro e w1 ⟨rfl, rfl⟩
  go_wp2_with fail
  rw [rounds_succ]
  go_wp2_with fail
  refine (hc2 _).mono ?_
  rintro e w1 ⟨rfl, rfl⟩
  go_wp2_with fail
  go_ret
  exact ⟨rfl, (Below.refl _ _).alloc (Nat.le_refl _) _⟩
set_option maxRecDepth 100000 in
set_option maxHeartbeats 2000000 in
theorem mark_no (s : ByteArray) (w : World) (t1 : ByteArray) (hc1 : ∀ w, Calls Tryd.prog 48 #[.string s, .string ⟨#[45, 45, 45]⟩] w fun e w' => e = .returned (.tuple #[.string t1, .bool false]) ∧ w' = w) (t2 : ByteArray) (hc2 : ∀ w, Calls Tryd.prog 48 #[.string s, .string ⟨#[46, 46, 46]⟩] w fun e w' => e = .returned (.tuple #[.string t2, .bool true]) ∧ w' = w) (he2 : t2.toList.isEmpty = false) (hp2 : 0 < t2.size) (hx2 : (((t2[0]'hp2).toNat : Int) == 32) = false) : Calls Tryd.prog 35 #[.agg #[.string s]] w fun e w' => e = .returned (.bool false) ∧ Below w.heap.size w w' := by
  go_enter Tryd.func35, Tryd.ntmps35
  go_wp2_with fail
  refine wp_loop_rounds 3 ?_
  rw [rounds_succ]
  go_wp2_with fail
  refine (hc1 _).mono ?_
  rintro e w1 ⟨rfl, rfl⟩
  go_wp2_with fail
  rw [rounds_succ]
  go_wp2_with fail
  refine (hc2 _).mono ?_
  rintro e w1 ⟨rfl, rfl⟩
  go_wp2_with fail
  rw [rounds_succ]
  go_wp2_with fail
  go_ret
  exact ⟨rfl, (Below.refl _ _).alloc (Nat.le_refl _) _⟩
set_option maxRecDepth 100000 in
set_option maxHeartbeats 2000000 in
theorem mark_nb (s : ByteArray) (w : World) (t1 : ByteArray) (hc1 : ∀ w, Calls Tryd.prog 48 #[.string s, .string ⟨#[45, 45, 45]⟩] w fun e w' => e = .returned (.tuple #[.string t1, .bool false]) ∧ w' = w) (t2 : ByteArray) (hc2 : ∀ w, Calls Tryd.prog 48 #[.string s, .string ⟨#[46, 46, 46]⟩] w fun e w' => e = .returned (.tuple #[.string t2, .bool true]) ∧ w' = w) (he2 : t2.toList.isEmpty = false) (hp2 : 0 < t2.size) (hx2 : (((t2[0]'hp2).toNat : Int) == 32) = true) : Calls Tryd.prog 35 #[.agg #[.string s]] w fun e w' => e = .returned (.bool true) ∧ Below w.heap.size w w' := by
  go_enter Tryd.func35, Tryd.ntmps35
  go_wp2_with fail
  refine wp_loop_rounds 3 ?_
  rw [rounds_succ]
  go_wp2_with fail
  refine (hc1 _).mono ?_
  rintro e w1 ⟨rfl, rfl⟩
  go_wp2_with fail
  rw [rounds_succ]
  go_wp2_with fail
  refine (hc2 _).mono ?_
  rintro e w1 ⟨rfl, rfl⟩
  go_wp2_with fail
  go_ret
  exact ⟨rfl, (Below.refl _ _).alloc (Nat.le_refl _) _⟩
set_option maxRecDepth 100000 in
set_option maxHeartbeats 2000000 in
theorem mark_e (s : ByteArray) (w : World) (t1 : ByteArray) (hc1 : ∀ w, Calls Tryd.prog 48 #[.string s, .string ⟨#[45, 45, 45]⟩] w fun e w' => e = .returned (.tuple #[.string t1, .bool true]) ∧ w' = w) (he1 : t1.toList.isEmpty = true)  : Calls Tryd.prog 35 #[.agg #[.string s]] w fun e w' => e = .returned (.bool true) ∧ Below w.heap.size w w' := by
  go_enter Tryd.func35, Tryd.ntmps35
  go_wp2_with fail
  refine wp_loop_rounds 3 ?_
  rw [rounds_succ]
  go_wp2_with fail
  refine (hc1 _).mono ?_
  rintro e w1 ⟨rfl, rfl⟩
  go_wp2_with fail
  go_ret
  exact ⟨rfl, (Below.refl _ _).alloc (Nat.le_refl _) _⟩
set_option maxRecDepth 100000 in
set_option maxHeartbeats 2000000 in
theorem mark_on (s : ByteArray) (w : World) (t1 : ByteArray) (hc1 : ∀ w, Calls Tryd.prog 48 #[.string s, .string ⟨#[45, 45, 45]⟩] w fun e w' => e = .returned (.tuple #[.string t1, .bool true]) ∧ w' = w) (he1 : t1.toList.isEmpty = false) (hp1 : 0 < t1.size) (hx1 : (((t1[0]'hp1).toNat : Int) == 32) = false) (t2 : ByteArray) (hc2 : ∀ w, Calls Tryd.prog 48 #[.string s, .string ⟨#[46, 46, 46]⟩] w fun e w' => e = .returned (.tuple #[.string t2, .bool false]) ∧ w' = w) : Calls Tryd.prog 35 #[.agg #[.string s]] w fun e w' => e = .returned (.bool false) ∧ Below w.heap.size w w' := by
  go_enter Tryd.func35, Tryd.ntmps35
  go_wp2_with fail
  refine wp_loop_rounds 3 ?_
  rw [rounds_succ]
  go_wp2_with fail
  refine (hc1 _).mono ?_
  rintro e w1 ⟨rfl, rfl⟩
  go_wp2_with fail
  rw [rounds_succ]
  go_wp2_with fail
  refine (hc2 _).mono ?_
  rintro e w1 ⟨rfl, rfl⟩
  go_wp2_with fail
  rw [rounds_succ]
  go_wp2_with fail
  go_ret
  exact ⟨rfl, (Below.refl _ _).alloc (Nat.le_refl _) _⟩
set_option maxRecDepth 100000 in
set_option maxHeartbeats 2000000 in
theorem mark_oe (s : ByteArray) (w : World) (t1 : ByteArray) (hc1 : ∀ w, Calls Tryd.prog 48 #[.string s, .string ⟨#[45, 45, 45]⟩] w fun e w' => e = .returned (.tuple #[.string t1, .bool true]) ∧ w' = w) (he1 : t1.toList.isEmpty = false) (hp1 : 0 < t1.size) (hx1 : (((t1[0]'hp1).toNat : Int) == 32) = false) (t2 : ByteArray) (hc2 : ∀ w, Calls Tryd.prog 48 #[.string s, .string ⟨#[46, 46, 46]⟩] w fun e w' => e = .returned (.tuple #[.string t2, .bool true]) ∧ w' = w) (he2 : t2.toList.isEmpty = true) : Calls Tryd.prog 35 #[.agg #[.string s]] w fun e w' => e = .returned (.bool true) ∧ Below w.heap.size w w' := by
  go_enter Tryd.func35, Tryd.ntmps35
  go_wp2_with fail
  refine wp_loop_rounds 3 ?_
  rw [rounds_succ]
  go_wp2_with fail
  refine (hc1 _).mono ?_
  rintro e w1 ⟨rfl, rfl⟩
  go_wp2_with fail
  rw [rounds_succ]
  go_wp2_with fail
  refine (hc2 _).mono ?_
  rintro e w1 ⟨rfl, rfl⟩
  go_wp2_with fail
  go_ret
  exact ⟨rfl, (Below.refl _ _).alloc (Nat.le_refl _) _⟩
set_option maxRecDepth 100000 in
set_option maxHeartbeats 2000000 in
theorem mark_oo (s : ByteArray) (w : World) (t1 : ByteArray) (hc1 : ∀ w, Calls Tryd.prog 48 #[.string s, .string ⟨#[45, 45, 45]⟩] w fun e w' => e = .returned (.tuple #[.string t1, .bool true]) ∧ w' = w) (he1 : t1.toList.isEmpty = false) (hp1 : 0 < t1.size) (hx1 : (((t1[0]'hp1).toNat : Int) == 32) = false) (t2 : ByteArray) (hc2 : ∀ w, Calls Tryd.prog 48 #[.string s, .string ⟨#[46, 46, 46]⟩] w fun e w' => e = .returned (.tuple #[.string t2, .bool true]) ∧ w' = w) (he2 : t2.toList.isEmpty = false) (hp2 : 0 < t2.size) (hx2 : (((t2[0]'hp2).toNat : Int) == 32) = false) : Calls Tryd.prog 35 #[.agg #[.string s]] w fun e w' => e = .returned (.bool false) ∧ Below w.heap.size w w' := by
  go_enter Tryd.func35, Tryd.ntmps35
  go_wp2_with fail
  refine wp_loop_rounds 3 ?_
  rw [rounds_succ]
  go_wp2_with fail
  refine (hc1 _).mono ?_
  rintro e w1 ⟨rfl, rfl⟩
  go_wp2_with fail
  rw [rounds_succ]
  go_wp2_with fail
  refine (hc2 _).mono ?_
  rintro e w1 ⟨rfl, rfl⟩
  go_wp2_with fail
  rw [rounds_succ]
  go_wp2_with fail
  go_ret
  exact ⟨rfl, (Below.refl _ _).alloc (Nat.le_refl _) _⟩
set_option maxRecDepth 100000 in
set_option maxHeartbeats 2000000 in
theorem mark_ob (s : ByteArray) (w : World) (t1 : ByteArray) (hc1 : ∀ w, Calls Tryd.prog 48 #[.string s, .string ⟨#[45, 45, 45]⟩] w fun e w' => e = .returned (.tuple #[.string t1, .bool true]) ∧ w' = w) (he1 : t1.toList.isEmpty = false) (hp1 : 0 < t1.size) (hx1 : (((t1[0]'hp1).toNat : Int) == 32) = false) (t2 : ByteArray) (hc2 : ∀ w, Calls Tryd.prog 48 #[.string s, .string ⟨#[46, 46, 46]⟩] w fun e w' => e = .returned (.tuple #[.string t2, .bool true]) ∧ w' = w) (he2 : t2.toList.isEmpty = false) (hp2 : 0 < t2.size) (hx2 : (((t2[0]'hp2).toNat : Int) == 32) = true) : Calls Tryd.prog 35 #[.agg #[.string s]] w fun e w' => e = .returned (.bool true) ∧ Below w.heap.size w w' := by
  go_enter Tryd.func35, Tryd.ntmps35
  go_wp2_with fail
  refine wp_loop_rounds 3 ?_
  rw [rounds_succ]
  go_wp2_with fail
  refine (hc1 _).mono ?_
  rintro e w1 ⟨rfl, rfl⟩
  go_wp2_with fail
  rw [rounds_succ]
  go_wp2_with fail
  refine (hc2 _).mono ?_
  rintro e w1 ⟨rfl, rfl⟩
  go_wp2_with fail
  go_ret
  exact ⟨rfl, (Below.refl _ _).alloc (Nat.le_refl _) _⟩
set_option maxRecDepth 100000 in
set_option maxHeartbeats 2000000 in
theorem mark_b (s : ByteArray) (w : World) (t1 : ByteArray) (hc1 : ∀ w, Calls Tryd.prog 48 #[.string s, .string ⟨#[45, 45, 45]⟩] w fun e w' => e = .returned (.tuple #[.string t1, .bool true]) ∧ w' = w) (he1 : t1.toList.isEmpty = false) (hp1 : 0 < t1.size) (hx1 : (((t1[0]'hp1).toNat : Int) == 32) = true)  : Calls Tryd.prog 35 #[.agg #[.string s]] w fun e w' => e = .returned (.bool true) ∧ Below w.heap.size w w' := by
  go_enter Tryd.func35, Tryd.ntmps35
  go_wp2_with fail
  refine wp_loop_rounds 3 ?_
  rw [rounds_succ]
  go_wp2_with fail
  refine (hc1 _).mono ?_
  rintro e w1 ⟨rfl, rfl⟩
  go_wp2_with fail
  go_ret
  exact ⟨rfl, (Below.refl _ _).alloc (Nat.le_refl _) _⟩
/-- What stands behind a prefix: the four ways. -/
theorem four_ways (t : ByteArray) (p : Bool) : p = false ∨ (p = true ∧ t.toList.isEmpty = true) ∨ (p = true ∧ t.toList.isEmpty = false ∧ ∃ hp : 0 < t.size, (((t[0]'hp).toNat : Int) == 32) = true) ∨ (p = true ∧ t.toList.isEmpty = false ∧ ∃ hp : 0 < t.size, (((t[0]'hp).toNat : Int) == 32) = false) := by
  cases p with
  | false => exact .inl rfl
  | true =>
    by_cases h : 0 < t.size
    · have he : t.toList.isEmpty = false := by
        rw [ByteArray.toList_eq]
        cases hl : t.data.toList with
        | nil => have := text_size t; rw [hl] at this; simp at this; omega
        | cons x u => rfl
      by_cases hx : (((t[0]'h).toNat : Int) == 32) = true
      · exact .inr (.inr (.inl ⟨rfl, he, h, hx⟩))
      · exact .inr (.inr (.inr ⟨rfl, he, h, by simpa using hx⟩))
    · refine .inr (.inl ⟨rfl, ?_⟩)
      rw [ByteArray.toList_eq]
      have := text_size t
      cases hl : t.data.toList with
      | nil => rfl
      | cons x u => rw [hl] at this; simp at this; omega
theorem one_of (s t : ByteArray) (p : Bool) (m : Ln.B) (ht : t.data.toList = Lib.trimPrefix s.data.toList m) (hp : Lib.hasPrefix s.data.toList m = p) :
    (p = false → Ln.oneB m s.data.toList = false) ∧ (p = true → t.toList.isEmpty = true → Ln.oneB m s.data.toList = true) ∧
    (∀ h : 0 < t.size, p = true → (((t[0]'h).toNat : Int) == 32) = true → Ln.oneB m s.data.toList = true) ∧
    (∀ h : 0 < t.size, p = true → (((t[0]'h).toNat : Int) == 32) = false → Ln.oneB m s.data.toList = false) := by
  have hget : ∀ h : 0 < t.size, t.data.toList ≠ [] ∧ t.data.toList.head? = some (t[0]'h) := by
    intro h
    have h' : 0 < t.data.toList.length := by rw [text_size]; exact h
    refine ⟨by intro e; rw [e] at h'; simp at h', ?_⟩
    rw [List.head?_eq_getElem?, List.getElem?_eq_getElem h']
    rfl
  unfold Ln.oneB
  rw [hp, ← ht]
  refine ⟨fun h => by rw [h, Bool.false_and], fun h he => ?_, fun hlt h hx => ?_, fun hlt h hx => ?_⟩
  · rw [ByteArray.toList_eq] at he
    have : t.data.toList = [] := by simpa using he
    rw [h, this]
    rfl
  · obtain ⟨h1, h2⟩ := hget hlt
    have h3 : (t[0]'hlt) = 32 := by
      have : ((t[0]'hlt).toNat : Int) = 32 := by simpa using hx
      exact UInt8.toNat_inj.1 (by show (t[0]'hlt).toNat = 32; omega)
    rw [h, h2, h3]
    simp
  · obtain ⟨h1, h2⟩ := hget hlt
    have h3 : (t[0]'hlt) ≠ 32 := by
      intro e
      rw [e] at hx
      exact absurd hx (by decide)
    rw [h, h2]
    simp [h1, h3]
theorem mark_any (s : ByteArray) (w : World) : Calls Tryd.prog 35 #[.agg #[.string s]] w fun e w' => e = .returned (.bool (Ln.markB s.data.toList)) ∧ Below w.heap.size w w' := by
  have hc1 := fun w => Tryd.strings_CutPrefix s ⟨#[45, 45, 45]⟩ w
  have hc2 := fun w => Tryd.strings_CutPrefix s ⟨#[46, 46, 46]⟩ w
  obtain ⟨t1, ht1⟩ : ∃ t : ByteArray, (⟨(Lib.trimPrefix s.data.toList [45, 45, 45]).toArray⟩ : ByteArray) = t := ⟨_, rfl⟩
  obtain ⟨t2, ht2⟩ : ∃ t : ByteArray, (⟨(Lib.trimPrefix s.data.toList [46, 46, 46]).toArray⟩ : ByteArray) = t := ⟨_, rfl⟩
  obtain ⟨p1, hp1⟩ : ∃ p, Lib.hasPrefix s.data.toList [45, 45, 45] = p := ⟨_, rfl⟩
  obtain ⟨p2, hp2⟩ : ∃ p, Lib.hasPrefix s.data.toList [46, 46, 46] = p := ⟨_, rfl⟩
  simp only [ht1, hp1] at hc1
  simp only [ht2, hp2] at hc2
  obtain ⟨a1, a2, a3, a4⟩ := one_of s t1 p1 [45, 45, 45] (by rw [← ht1]) hp1
  obtain ⟨b1, b2, b3, b4⟩ := one_of s t2 p2 [46, 46, 46] (by rw [← ht2]) hp2
  rw [Ln.mark_one]
  rcases four_ways t1 p1 with rfl | ⟨rfl, he1⟩ | ⟨rfl, he1, q1, hx1⟩ | ⟨rfl, he1, q1, hx1⟩
  · rw [a1 rfl, Bool.false_or]
    rcases four_ways t2 p2 with rfl | ⟨rfl, he2⟩ | ⟨rfl, he2, q2, hx2⟩ | ⟨rfl, he2, q2, hx2⟩
    · rw [b1 rfl]
      exact mark_nn s w t1 hc1 t2 hc2
    · rw [b2 rfl he2]
      exact mark_ne s w t1 hc1 t2 hc2 he2
    · rw [b3 q2 rfl hx2]
      exact mark_nb s w t1 hc1 t2 hc2 he2 q2 hx2
    · rw [b4 q2 rfl hx2]
      exact mark_no s w t1 hc1 t2 hc2 he2 q2 hx2
  · rw [a2 rfl he1, Bool.true_or]
    exact mark_e s w t1 hc1 he1
  · rw [a3 q1 rfl hx1, Bool.true_or]
    exact mark_b s w t1 hc1 he1 q1 hx1
  · rw [a4 q1 rfl hx1, Bool.false_or]
    rcases four_ways t2 p2 with rfl | ⟨rfl, he2⟩ | ⟨rfl, he2, q2, hx2⟩ | ⟨rfl, he2, q2, hx2⟩
    · rw [b1 rfl]
      exact mark_on s w t1 hc1 he1 q1 hx1 t2 hc2
    · rw [b2 rfl he2]
      exact mark_oe s w t1 hc1 he1 q1 hx1 t2 hc2 he2
    · rw [b3 q2 rfl hx2]
      exact mark_ob s w t1 hc1 he1 q1 hx1 t2 hc2 he2 q2 hx2
    · rw [b4 q2 rfl hx2]
      exact mark_oo s w t1 hc1 he1 q1 hx1 t2 hc2 he2 q2 hx2
end Go.Proofs.YtofikmdfiimbbaaDoor
