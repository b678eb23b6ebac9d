/- Notes and blanks around a text, in plain Lean. -/
import Derived.Test.YtofikmdfiimbbaaDoorPh
import Derived.Test.YtofikmdfiimbbaaDoorPg
set_option linter.unusedVariables false
set_option linter.unusedSimpArgs false
namespace Ln
def blanks (k : Nat) : B := List.replicate k 32
theorem blanks_no (k : Nat) : ∀ b ∈ blanks k, b ≠ 10 := fun b hb => by rw [(List.mem_replicate.1 hb).2]; decide
/-- How rows may turn where blanks are put behind. -/
def Sim (k : Nat) (a b : List B) : Prop := b = a ∨ b = a ++ [blanks k] ∨ ∃ i l, a = i ++ [l] ∧ b = i ++ [l ++ blanks k]
theorem rows_tail (k : Nat) : ∀ (t : B), Sim k (rows t) (rows (t ++ blanks k))
  | [] => by
    cases k with
    | zero => exact .inl rfl
    | succ k => exact .inr (.inl (by rw [List.nil_append, rows_last _ (by simp [blanks]) (blanks_no _)]; rfl))
  | b :: t => by
    by_cases hb : b = 10
    · subst hb
      rw [List.cons_append, rows_nl, rows_nl]
      rcases rows_tail k t with h | h | ⟨i, l, h1, h2⟩
      · exact .inl (by rw [h])
      · exact .inr (.inl (by rw [h]; rfl))
      · exact .inr (.inr ⟨[] :: i, l, by rw [h1]; rfl, by rw [h2]; rfl⟩)
    · by_cases ht : t = []
      · subst ht
        refine .inr (.inr ⟨[], [b], ?_, ?_⟩)
        · exact rows_last _ (by simp) (by simpa using hb)
        · exact rows_last _ (by simp) (fun x hx => by
            simp only [List.cons_append, List.nil_append, List.mem_cons] at hx
            rcases hx with rfl | hx
            · exact hb
            · exact blanks_no k x hx)
      · cases hr : rows t with
        | nil => exact absurd hr (rows_ne t ht)
        | cons r rs =>
          rw [List.cons_append, rows_b b hb t r rs hr]
          rcases rows_tail k t with h | h | ⟨i, l, h1, h2⟩
          · rw [hr] at h
            exact .inl (rows_b b hb _ r rs h)
          · rw [hr, List.cons_append] at h
            exact .inr (.inl (rows_b b hb _ r _ h))
          · rw [hr] at h1
            cases i with
            | nil =>
              simp only [List.nil_append, List.cons.injEq] at h1
              obtain ⟨rfl, rfl⟩ := h1
              exact .inr (.inr ⟨[], b :: r, rfl, rows_b b hb _ _ [] h2⟩)
            | cons x i =>
              simp only [List.cons_append, List.cons.injEq] at h1
              obtain ⟨rfl, rfl⟩ := h1
              exact .inr (.inr ⟨(b :: r) :: i, l, rfl, rows_b b hb _ _ _ h2⟩)
theorem trouble_blanks (l : B) (k : Nat) : trouble (l ++ blanks k) = trouble l := by
  unfold trouble blanks
  rw [plain_append, plain_blanks, Bool.and_true, mark_blanks]
theorem trouble_none (k : Nat) : trouble (blanks k) = 0 := by
  have := trouble_blanks [] k
  rw [List.nil_append] at this
  rw [this]
  rfl
theorem lead_append (l m : B) (h : lead l ≠ []) : lead (l ++ m) = lead l ++ m := by
  induction l with
  | nil => exact absurd rfl h
  | cons x t ih =>
    by_cases hx : x = 32
    · subst hx
      have e : ∀ u, lead (32 :: u) = lead u := fun u => by simp [lead]
      rw [e] at h
      rw [List.cons_append, e, e, ih h]
    · have e : ∀ u, lead (x :: u) = x :: u := fun u => by simp [lead, hx]
      rw [List.cons_append, e, e, List.cons_append]
theorem lead_all (k : Nat) : lead (blanks k) = [] := by
  have := lead_blanks k []
  rw [List.append_nil] at this
  exact this
theorem lead_gone (l m : B) (h : lead l = []) : lead (l ++ m) = lead m := by
  induction l with
  | nil => rfl
  | cons x t ih =>
    by_cases hx : x = 32
    · subst hx
      have e : ∀ u, lead (32 :: u) = lead u := fun u => by simp [lead]
      rw [e] at h
      rw [List.cons_append, e, ih h]
    · rw [show lead (x :: t) = x :: t by simp [lead, hx]] at h
      exact absurd h (by simp)
theorem tail_blanks (l : B) (k : Nat) : tail (l ++ blanks k) = tail l := by
  have e : ∀ u : B, tail u = (lead u.reverse).reverse := fun _ => rfl
  rw [e, e, List.reverse_append]
  unfold blanks
  rw [List.reverse_replicate, lead_blanks]
theorem lineL_blanks (n : Int) (l : B) (k : Nat) : lineL n (l ++ blanks k) = lineL n l := by
  by_cases h : lead l = []
  · have h2 : lead (l ++ blanks k) = [] := by rw [lead_gone _ _ h, lead_all]
    unfold lineL says
    rw [h, h2]
    rfl
  · have h2 := lead_append l (blanks k) h
    have hs : says (l ++ blanks k) = says l := by
      unfold says
      rw [h2]
      cases hl : lead l with
      | nil => exact absurd hl h
      | cons x t => simp
    unfold lineL
    rw [hs]
    unfold lineOf
    rw [h2, tail_blanks, List.length_append, List.length_append]
    rw [show ((l.length + (blanks k).length : Nat) : Int) - (((lead l).length + (blanks k).length : Nat) : Int) = (l.length : Int) - ((lead l).length : Int) by omega]
theorem lineL_none (n : Int) (k : Nat) : lineL n (blanks k) = [] := by
  unfold lineL says
  rw [lead_all]
  rfl
theorem lns_sim {k : Nat} {a b : List B} (h : Sim k a b) (n : Int) : lns n b = lns n a := by
  rcases h with rfl | rfl | ⟨i, l, rfl, rfl⟩
  · rfl
  · rw [lns_append]
    simp [lns, lineL_none]
  · rw [lns_append, lns_append]
    simp [lns, lineL_blanks]
theorem bad_back : ∀ (a : List B) (n : Int) (r s : B), trouble r = trouble s → bad n (a ++ [r]) = bad n (a ++ [s])
  | [], n, r, s, h => by simp [bad, h]
  | x :: a, n, r, s, h => by
    rw [List.cons_append, List.cons_append, bad, bad, bad_back a (n + 1) r s h]
theorem bad_more : ∀ (a : List B) (n : Int) (r : B), trouble r = 0 → bad n (a ++ [r]) = bad n a
  | [], n, r, h => by simp [bad, h]
  | x :: a, n, r, h => by rw [List.cons_append, bad, bad, bad_more a (n + 1) r h]
theorem bad_sim {k : Nat} {a b : List B} (h : Sim k a b) (n : Int) : bad n b = bad n a := by
  rcases h with rfl | rfl | ⟨i, l, rfl, rfl⟩
  · rfl
  · exact bad_more _ _ _ (trouble_none k)
  · exact bad_back _ _ _ _ (trouble_blanks l k)
theorem bad_later : ∀ (a : List B) (n k : Int), bad (n + k) a = if (bad n a).2 = 0 then (0, 0) else ((bad n a).1 + k, (bad n a).2)
  | [], n, k => by simp [bad]
  | x :: a, n, k => by
    unfold bad
    by_cases h : trouble x = 0
    · rw [if_pos h, if_pos h, show n + k + 1 = n + 1 + k by omega]
      exact bad_later a (n + 1) k
    · rw [if_neg h, if_neg h, if_neg h]
theorem bad_pos : ∀ (a : List B) (n : Int), 0 < n → (bad n a).2 ≠ 0 → 0 < (bad n a).1
  | [], n, _, h => absurd rfl h
  | x :: a, n, hn, h => by
    unfold bad at h ⊢
    by_cases hx : trouble x = 0
    · rw [if_pos hx] at h ⊢
      exact bad_pos a (n + 1) (by omega) h
    · rw [if_neg hx]
      exact hn
theorem bad_top : ∀ (a : List B) (n : Int), 0 ≤ n → (bad n a).1 ≤ n + a.length
  | [], n, hn => by simp [bad]; omega
  | x :: a, n, hn => by
    unfold bad
    by_cases hx : trouble x = 0
    · rw [if_pos hx]
      have := bad_top a (n + 1) (by omega)
      simp only [List.length_cons]
      omega
    · rw [if_neg hx]
      simp only [List.length_cons]
      omega
theorem split_top (s : B) : (split s).2.1 ≤ 1 + s.length := by
  have h1 := bad_top (rows s) 1 (by omega)
  have h2 := rows_size s
  unfold split
  split
  · simp; omega
  · split
    · simp; omega
    · split
      · simp; omega
      · simp only; omega
/-- A note's row and a blank one ahead, blanks behind. -/
def noted (k : Nat) (N L : B) : B := blanks k ++ [35] ++ N ++ [10] ++ blanks k ++ [10] ++ L ++ blanks k
theorem noted_eq (k : Nat) (N L : B) : noted k N L = (blanks k ++ 35 :: N) ++ 10 :: (blanks k ++ 10 :: (L ++ blanks k)) := by
  unfold noted
  simp
theorem noted_split (k : Nat) (N L : B) (hN1 : right N = true) (hN2 : plainB N = true) (hl : (noted k N L).length ≤ 8000) (hl2 : L.length ≤ 8000) :
    ((split L).2.2 = 0 → split (noted k N L) = ((split L).1.map (later 2), 0, 0)) ∧
    ((split L).2.2 ≠ 0 → split (noted k N L) = ([], if (split L).2.1 = 0 then 0 else (split L).2.1 + 2, (split L).2.2) ∧ 0 ≤ (split L).2.1) := by
  have hr : right (noted k N L) = right L := by
    have e : noted k N L = blanks k ++ 35 :: (N ++ 10 :: (blanks k ++ 10 :: (L ++ blanks k))) := by rw [noted_eq]; simp
    rw [e, right_split _ _ _ (by decide), right_split _ _ _ (by decide), right_split _ _ _ (by decide), hN1, right_back L (blanks k) (blanks_ascii k), right_ascii (blanks k) (blanks_ascii k)]
    simp
  have h1 : trouble (blanks k ++ 35 :: N) = 0 := by
    unfold trouble
    have hp : plainB (blanks k ++ 35 :: N) = true := by
      rw [plain_append, show plainB (blanks k) = true from plain_blanks k]
      show (true && plainB ([35] ++ N)) = true
      rw [plain_append, hN2]
      rfl
    have hm : markB (blanks k ++ 35 :: N) = false := by
      cases k with
      | zero => exact mark_head _ (by simp [blanks]) (by simp [blanks])
      | succ k => exact mark_head _ (by simp [blanks, List.replicate_succ]) (by simp [blanks, List.replicate_succ])
    rw [if_pos hp, hm]
    rfl
  have h2 : ∀ n, lineL n (blanks k ++ 35 :: N) = [] := by
    intro n
    have hld : lead (blanks k ++ 35 :: N) = 35 :: N := by
      unfold blanks
      rw [lead_blanks, lead_of _ (by simp)]
    unfold lineL says
    rw [hld]
    simp
  have hrw : rows (noted k N L) = (blanks k ++ 35 :: N) :: blanks k :: rows (L ++ blanks k) := by
    rw [noted_eq, rows_row _ _ (fun b hb => ?_), rows_row _ _ (blanks_no k)]
    rcases List.mem_append.1 hb with h | h
    · exact blanks_no k b h
    · rcases List.mem_cons.1 h with rfl | h
      · decide
      · exact plain_no_nl N hN2 b h
  have hsim := rows_tail k L
  have hbad : bad 1 (rows (noted k N L)) = if (bad 1 (rows L)).2 = 0 then (0, 0) else ((bad 1 (rows L)).1 + 2, (bad 1 (rows L)).2) := by
    rw [hrw, bad, if_pos h1, bad, if_pos (trouble_none k), bad_sim hsim, show (1 : Int) + 1 + 1 = 1 + 2 by omega, bad_later]
  have hlns : lns 1 (rows (noted k N L)) = (lns 1 (rows L)).map (later 2) := by
    rw [hrw, lns, lns, h2, lineL_none, List.nil_append, List.nil_append, lns_sim hsim, show (1 : Int) + 1 + 1 = 1 + 2 by omega, lns_later]
  have hs : split (noted k N L) = if right L = false then ([], 0, 40) else if (bad 1 (rows L)).2 = 0 then ((lns 1 (rows L)).map (later 2), 0, 0) else ([], (bad 1 (rows L)).1 + 2, (bad 1 (rows L)).2) := by
    unfold split
    rw [if_neg (by omega), hr, hbad, hlns]
    by_cases g : (bad 1 (rows L)).2 = 0
    · simp [g]
    · simp [g]
  have hs2 : split L = if right L = false then ([], 0, 40) else if (bad 1 (rows L)).2 = 0 then (lns 1 (rows L), 0, 0) else ([], bad 1 (rows L)) := by
    unfold split
    rw [if_neg (by omega)]
  rw [hs, hs2]
  by_cases g : right L = false
  · rw [if_pos g, if_pos g]
    exact ⟨fun h => absurd h (by simp), fun _ => ⟨rfl, by simp⟩⟩
  · rw [if_neg g, if_neg g]
    by_cases g2 : (bad 1 (rows L)).2 = 0
    · rw [if_pos g2, if_pos g2]
      exact ⟨fun _ => rfl, fun h => absurd rfl h⟩
    · rw [if_neg g2, if_neg g2]
      have := bad_pos (rows L) 1 (by omega) g2
      exact ⟨fun h => absurd h g2, fun _ => ⟨by rw [if_neg (by simp only; omega)], by simp only; omega⟩⟩
end Ln
