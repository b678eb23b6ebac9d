/- Lines are split from the text that they are joined to; what is split may be joined. In plain Lean. -/
import Derived.Test.YtofikmdfiimbbaaDoorPg
set_option linter.unusedVariables false
set_option linter.unusedSimpArgs false
namespace Ln
theorem plain_append (a b : B) : plainB (a ++ b) = (plainB a && plainB b) := by unfold plainB; rw [List.all_append]
theorem plain_blanks (k : Nat) : plainB (List.replicate k 32) = true := by
  unfold plainB
  rw [List.all_eq_true]
  intro b hb
  rw [(List.mem_replicate.1 hb).2]
  decide
theorem plain_no_nl (r : B) (h : plainB r = true) : ∀ b ∈ r, b ≠ 10 := by
  intro b hb e
  unfold plainB at h
  have := List.all_eq_true.1 h b hb
  rw [e] at this
  exact absurd this (by decide)
theorem blanks_ascii (k : Nat) : ∀ b ∈ List.replicate k (32 : UInt8), b.toNat < 128 := fun b hb => by rw [(List.mem_replicate.1 hb).2]; decide
theorem mark_head (r : B) (h : r.head? ≠ some 45) (h2 : r.head? ≠ some 46) : markB r = false := by
  cases r with
  | nil => rfl
  | cons x t =>
    have e1 : ¬ (45 : UInt8) = x := fun e => h (by rw [← e]; rfl)
    have e2 : ¬ (46 : UInt8) = x := fun e => h2 (by rw [← e]; rfl)
    simp [markB, List.isPrefixOf, e1, e2]
theorem mark_blanks (S : B) (j : Nat) : markB (S ++ List.replicate j 32) = markB S := by
  cases j with
  | zero => rw [List.replicate_zero, List.append_nil]
  | succ j =>
    rw [List.replicate_succ]
    match S with
    | [] => simp [markB, List.isPrefixOf]
    | [a] => simp [markB, List.isPrefixOf]
    | [a, b] => simp [markB, List.isPrefixOf]
    | [a, b, c] => simp [markB, List.isPrefixOf]
    | a :: b :: c :: d :: S => simp [markB, List.isPrefixOf]
theorem lead_of (l : B) (h : l.head? ≠ some 32) : lead l = l := by
  cases l with
  | nil => rfl
  | cons x t =>
    have : ¬ x = 32 := fun e => h (by rw [e]; rfl)
    simp [lead, this]
theorem lead_blanks (k : Nat) (l : B) : lead (List.replicate k 32 ++ l) = lead l := by
  induction k with
  | zero => rfl
  | succ k ih =>
    rw [List.replicate_succ, List.cons_append]
    have : lead (32 :: (List.replicate k 32 ++ l)) = lead (List.replicate k 32 ++ l) := by simp [lead]
    rw [this, ih]
theorem tail_of (l : B) (h : l.getLast? ≠ some 32) : tail l = l := by
  have e : tail l = (lead l.reverse).reverse := rfl
  rw [e, lead_of l.reverse (by rw [List.head?_reverse]; exact h), List.reverse_reverse]
theorem trim_eq (S : B) : Go.Lib.trimB S 32 = lead (tail S) := rfl
theorem trim_fix {S : B} (h : Go.Lib.trimB S 32 = S) (h0 : S ≠ []) : S.head? ≠ some 32 ∧ S.getLast? ≠ some 32 := by
  rw [trim_eq] at h
  obtain ⟨i, a1, a2, a3⟩ := lead_parts (tail S)
  obtain ⟨j, b1, b2⟩ := tail_parts S
  rw [h] at a1 a2 a3
  refine ⟨a3, ?_⟩
  have hl : (tail S).length ≤ S.length := by have := congrArg List.length b1; rw [List.length_append] at this; omega
  have hi : i = 0 := by omega
  rw [hi, List.replicate_zero, List.nil_append] at a1
  rw [a1] at b2
  exact b2
theorem rows_nls : ∀ (k : Nat) (u : B), rows (List.replicate k 10 ++ u) = List.replicate k [] ++ rows u
  | 0, u => rfl
  | k + 1, u => by rw [List.replicate_succ, List.cons_append, rows_nl, rows_nls k u, List.replicate_succ, List.cons_append]
theorem lns_empties : ∀ (k : Nat) (n : Int) (rs : List B), lns n (List.replicate k [] ++ rs) = lns (n + k) rs
  | 0, n, rs => by simp
  | k + 1, n, rs => by
    rw [List.replicate_succ, List.cons_append, lns, lns_empties k (n + 1) rs]
    have : lineL n [] = [] := rfl
    rw [this, List.nil_append]
    congr 1
    omega
theorem may_parts {last : Int} {x : Line} (h : may last x = true) : plainB x.s = true ∧ (markB x.s = true → 0 < x.ind) ∧ x.s.head? ≠ some 32 ∧ x.s.getLast? ≠ some 32 ∧ x.s.head? ≠ some 35 := by
  obtain ⟨_, _, _, _, h5, _⟩ := may_six h
  unfold may at h
  obtain ⟨_, h2⟩ := Bool.and_eq_true_iff.1 h
  obtain ⟨h3, h4⟩ := Bool.and_eq_true_iff.1 h2
  obtain ⟨h6, h7⟩ := Bool.and_eq_true_iff.1 h4
  obtain ⟨t1, t2⟩ := trim_fix (of_decide_eq_true h6) h5
  have hp : plainB x.s = true := by
    cases hp : plainB x.s with
    | true => rfl
    | false =>
      have : trouble x.s = 80 := by unfold trouble; rw [hp]; rfl
      rw [this] at h3
      simp at h3
  refine ⟨hp, fun hm => ?_, t1, t2, of_decide_eq_true h7⟩
  have : trouble x.s = 81 := by unfold trouble; rw [hp, hm]; rfl
  rw [this] at h3
  simpa using h3
/-- The row of a line. -/
def rowOf (x : Line) : B := List.replicate x.ind.toNat 32 ++ x.s
theorem row_facts {last : Int} {x : Line} (h : may last x = true) : trouble (rowOf x) = 0 ∧ lineL x.no (rowOf x) = [x] ∧ (∀ b ∈ rowOf x, b ≠ 10) ∧ right (rowOf x) = true := by
  obtain ⟨_, _, h3, _, h5, h6⟩ := may_six h
  obtain ⟨p1, p2, p3, p4, p5⟩ := may_parts h
  have hpl : plainB (rowOf x) = true := by unfold rowOf; rw [plain_append, plain_blanks, p1]; rfl
  have hm : markB (rowOf x) = false := by
    unfold rowOf
    cases hi : x.ind.toNat with
    | zero =>
      rw [List.replicate_zero, List.nil_append]
      cases hm : markB x.s with
      | false => rfl
      | true => have := p2 hm; omega
    | succ k =>
      rw [List.replicate_succ, List.cons_append]
      exact mark_head _ (by simp) (by simp)
  have hle : lead (rowOf x) = x.s := by unfold rowOf; rw [lead_blanks, lead_of _ p3]
  refine ⟨by unfold trouble; rw [hpl, hm]; rfl, ?_, plain_no_nl _ hpl, ?_⟩
  · unfold lineL says lineOf
    rw [hle, tail_of _ p4, if_pos (by simp [h5, p5])]
    have : ((rowOf x).length : Int) - (x.s.length : Int) = x.ind := by
      unfold rowOf
      rw [List.length_append, List.length_replicate]
      omega
    rw [this]
  · unfold rowOf
    rw [right_front _ _ (blanks_ascii _), h6]
theorem text_cons (last : Int) (x : Line) (xs : List Line) : text last (x :: xs) = List.replicate (x.no - last - 1).toNat 10 ++ (rowOf x ++ 10 :: text x.no xs) := by
  simp [text, rowOf, List.append_assoc]
theorem text_back : ∀ (l : List Line) (last : Int), 0 ≤ last → mays last l = true → lns (last + 1) (rows (text last l)) = l ∧ (∀ r ∈ rows (text last l), trouble r = 0) ∧ right (text last l) = true
  | [], _, _, _ => ⟨rfl, fun r hr => by simp [text, rows] at hr, right_nil⟩
  | x :: xs, last, h0, h => by
    obtain ⟨h1, h2⟩ := Bool.and_eq_true_iff.1 h
    obtain ⟨a, _⟩ := may_six h1
    obtain ⟨f1, f2, f3, f4⟩ := row_facts h1
    obtain ⟨i1, i2, i3⟩ := text_back xs x.no (by omega) h2
    rw [text_cons, rows_nls, rows_row _ _ f3]
    refine ⟨?_, ?_, ?_⟩
    · rw [lns_empties, lns]
      have e : last + 1 + ((x.no - last - 1).toNat : Int) = x.no := by omega
      rw [e, f2, i1]
      rfl
    · intro r hr
      rcases List.mem_append.1 hr with hr | hr
      · rw [(List.mem_replicate.1 hr).2]; rfl
      · rcases List.mem_cons.1 hr with rfl | hr
        · exact f1
        · exact i2 r hr
    · rw [right_front _ _ (fun b hb => by rw [(List.mem_replicate.1 hb).2]; decide), right_split _ 10 _ (by decide), f4, i3]
      rfl
theorem join_split (l : List Line) (h : (join l).2 = 0) : split (join l).1 = (l, 0, 0) := by
  unfold join at h ⊢
  by_cases h1 : mays 0 l = false
  · rw [if_pos h1] at h; simp at h
  · rw [if_neg h1] at h ⊢
    by_cases h2 : 8000 < size 0 l
    · rw [if_pos h2] at h; simp at h
    · rw [if_neg h2]
      have hm : mays 0 l = true := by simpa using h1
      obtain ⟨a, b, c⟩ := text_back l 0 (Int.le_refl _) hm
      have hl := text_length 0 l hm
      rw [split_of (text 0 l) (by omega) c b]
      rw [show (0 : Int) + 1 = 1 from rfl] at a
      rw [a]
theorem rows_right : ∀ (n : Nat) (s : B), s.length ≤ n → right s = true → ∀ r ∈ rows s, right r = true
  | _, [], _, _, r, hr => by simp [rows] at hr
  | 0, b :: t, h, _, _, _ => by simp at h
  | n + 1, b :: t, h, hs, r, hr => by
    by_cases hc : 10 ∈ (b :: t)
    · obtain ⟨a, u, he, hna⟩ := List.eq_append_cons_of_mem hc
      rw [he] at hs hr
      rw [right_split a 10 u (by decide)] at hs
      obtain ⟨s1, s2⟩ := Bool.and_eq_true_iff.1 hs
      rw [rows_row a u (fun x hx e => hna (e ▸ hx))] at hr
      rcases List.mem_cons.1 hr with rfl | hr
      · exact s1
      · refine rows_right n u ?_ s2 r hr
        have := congrArg List.length he
        simp only [List.length_append, List.length_cons] at this h
        omega
    · rw [rows_last (b :: t) (by simp) (fun x hx e => hc (e ▸ hx))] at hr
      rw [List.mem_singleton.1 hr]
      exact hs
theorem lineOf_may (r : B) (k last : Int) (hs : says r = true) (ht : trouble r = 0) (hr : right r = true) (hl : r.length ≤ 8000) (h0 : last < k) (h1 : k ≤ 8000) : may last (lineOf k r) = true := by
  obtain ⟨i, j, e, e2, q1, q2, q3, q4⟩ := says_parts r hs
  obtain ⟨hp, hm⟩ : plainB r = true ∧ markB r = false := by
    unfold trouble at ht
    cases h : plainB r with
    | false => rw [h] at ht; simp at ht
    | true =>
      rw [h] at ht
      cases h2 : markB r with
      | false => exact ⟨rfl, rfl⟩
      | true => rw [h2] at ht; simp at ht
  have hlen := lineOf_len r hs k
  obtain ⟨S, hS⟩ : ∃ S, tail (lead r) = S := ⟨_, rfl⟩
  have hline : lineOf k r = ⟨k, (i : Int), S⟩ := by
    unfold lineOf
    rw [hS]
    congr 1
    omega
  rw [hS] at e q1 q2 q3 q4
  rw [hline] at hlen ⊢
  simp only at hlen
  have hpS : plainB S = true := by
    rw [e, plain_append, plain_append] at hp
    exact (Bool.and_eq_true_iff.1 (Bool.and_eq_true_iff.1 hp).2).1
  have hrS : right S = true := by
    rw [e, right_front _ _ (blanks_ascii _), right_back _ _ (blanks_ascii _)] at hr
    exact hr
  have hmS : markB S = true → 0 < i := by
    intro h
    cases i with
    | zero =>
      rw [e, List.replicate_zero, List.nil_append, mark_blanks, h] at hm
      cases hm
    | succ i => omega
  have htr : Go.Lib.trimB S 32 = S := by rw [trim_eq, tail_of _ q4, lead_of _ q2]
  have hsix : (six last ⟨k, (i : Int), S⟩).all id = true := by
    unfold six
    simp only [List.all_cons, List.all_nil, id, Bool.and_eq_true, decide_eq_true_eq]
    have : S.length ≤ 8000 := by omega
    exact ⟨h0, h1, by omega, by omega, by simpa using q1, hrS, trivial⟩
  unfold may
  rw [hsix, Bool.true_and]
  simp only
  have ht2 : (decide (trouble S = 0) || (decide (trouble S = 81) && decide (0 < (i : Int)))) = true := by
    unfold trouble
    rw [hpS]
    cases h : markB S with
    | false => rfl
    | true =>
      have := hmS h
      simp
      exact hmS h
  rw [ht2, htr]
  simp [q3]
theorem lns_may : ∀ (rs : List B) (n last : Int), 0 ≤ last → last < n → n + rs.length ≤ 8001 → (∀ r ∈ rs, trouble r = 0 ∧ right r = true ∧ r.length ≤ 8000) → mays last (lns n rs) = true
  | [], _, _, _, _, _, _ => rfl
  | r :: rs, n, last, h0, h1, h2, h3 => by
    simp only [List.length_cons] at h2
    unfold lns lineL
    obtain ⟨a, b, c⟩ := h3 r (by simp)
    split
    · rename_i hs
      have ih := lns_may rs (n + 1) n (by omega) (by omega) (by omega) (fun r' hr' => h3 r' (by simp [hr']))
      show (may last (lineOf n r) && mays n (lns (n + 1) rs)) = true
      rw [ih, lineOf_may r n last hs a b c h1 (by omega)]
      rfl
    · exact lns_may rs (n + 1) last h0 (by omega) (by omega) (fun r' hr' => h3 r' (by simp [hr']))
theorem split_may (s : B) (h : (split s).2.2 = 0) : mays 0 (split s).1 = true := by
  obtain ⟨a, b, c⟩ := (split_zero s).1 h
  rw [split_ok s h]
  have := rows_size s
  refine lns_may (rows s) 1 0 (Int.le_refl _) (by omega) (by omega) fun r hr => ⟨c r hr, rows_right _ s (Nat.le_refl _) b r hr, ?_⟩
  have := rows_row_size s r hr
  omega
theorem split_join (s : B) (h : (split s).2.2 = 0) : join (split s).1 = ([], 20) ∨ ((join (split s).1).2 = 0 ∧ split (join (split s).1).1 = ((split s).1, 0, 0)) := by
  have hm := split_may s h
  by_cases h8 : 8000 < size 0 (split s).1
  · left
    unfold join
    rw [if_neg (by rw [hm]; decide), if_pos h8]
  · right
    have : (join (split s).1).2 = 0 := by
      unfold join
      rw [if_neg (by rw [hm]; decide), if_neg h8]
    exact ⟨this, join_split _ this⟩
end Ln
