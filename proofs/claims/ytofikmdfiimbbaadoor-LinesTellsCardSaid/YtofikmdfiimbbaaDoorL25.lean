/- Right texts, plain texts, the document's way. -/
import Derived.Test.YtofikmdfiimbbaaDoorL24
set_option linter.unusedVariables false
set_option linter.unusedSimpArgs false
namespace Go.Proofs.YtofikmdfiimbbaaDoor
open Go.RowKit
theorem ownsRow_slice {w : World} {base : Nat} {e : TypeId} {v : Value} {n : Nat} {xs : List Value} (h : w.ownsRow base e 1 v n xs) : xs.length = n ∧ ∃ at0 cap, v = .slice at0 n cap ∧ ∀ j u, xs[j]? = some u → ∃ g, at0 = some ⟨g, 0, none⟩ ∧ base ≤ g ∧ g < w.heap.size ∧ w.cell? ⟨g, j, none⟩ = some u := by
  have hl : xs.length = n := by have := h.1; omega
  refine ⟨hl, ?_⟩
  rcases h.2 with ⟨rfl, h0⟩ | ⟨g, cap, cur, rfl, hb, hgg, rest⟩
  · subst h0
    obtain rfl : xs = [] := List.eq_nil_of_length_eq_zero hl
    exact ⟨none, 0, rfl, fun j u hj => absurd hj (by simp)⟩
  · exact ⟨_, cap, rfl, fun j u hj => ⟨g, rfl, hb, lt_of_heap hgg, ownsRow_cell h j u hj⟩⟩
set_option maxRecDepth 100000 in
set_option maxHeartbeats 2000000 in
theorem right22_any (s : ByteArray) (hs : s.size ≤ 100000) (R : Bool) (hR : Ln.right s.data.toList = R) (w : World) :
    Calls Tryd.prog 22 #[.string s] w fun e w' => e = .returned (.bool R) ∧ Below w.heap.size w w' := by
  have hc := signs_any s hs R _ hR rfl w
  cases R with
  | true =>
    have hd : Calls Tryd.prog 29 #[.string s] w fun e w' => (∃ v, e = .returned (.tuple #[v, .int .i64 0])) ∧ Below w.heap.size w w' := hc.mono (by rintro e w' ⟨h, hb⟩; rw [if_pos rfl] at h; obtain ⟨v, rs, rfl, _⟩ := h; exact ⟨⟨v, rfl⟩, hb⟩)
    clear hc
    go_enter Tryd.func22, Tryd.ntmps22
    go_wp2_with fail
    refine hd.mono ?_
    rintro e w1 ⟨⟨v, rfl⟩, hb⟩
    go_wp2_with fail
    go_ret
    exact ⟨rfl, hb⟩
  | false =>
    have hd : Calls Tryd.prog 29 #[.string s] w fun e w' => e = .returned (.tuple #[.slice none 0 0, .int .i64 40]) ∧ Below w.heap.size w w' := hc.mono (by rintro e w' ⟨h, hb⟩; rw [if_neg (by decide)] at h; exact ⟨h, hb⟩)
    clear hc
    go_enter Tryd.func22, Tryd.ntmps22
    go_wp2_with fail
    refine hd.mono ?_
    rintro e w1 ⟨rfl, hb⟩
    go_wp2_with fail
    go_ret
    exact ⟨rfl, hb⟩
set_option maxRecDepth 100000 in
set_option maxHeartbeats 2000000 in
theorem plain17_any (s : ByteArray) (hs : s.size ≤ 100000) (R P : Bool) (hR : Ln.right s.data.toList = R) (hP : Ln.plainB s.data.toList = P) (w : World) :
    Calls Tryd.prog 17 #[.string s] w fun e w' => e = .returned (.bool (R && P)) ∧ Below w.heap.size w w' := by
  have hc := signs_any s hs R P hR hP w
  clear hR hP
  cases R with
  | false =>
    have hd : Calls Tryd.prog 29 #[.string s] w fun e w' => e = .returned (.tuple #[.slice none 0 0, .int .i64 40]) ∧ Below w.heap.size w w' := hc.mono (by rintro e w' ⟨h, hb⟩; rw [if_neg (by decide)] at h; exact ⟨h, hb⟩)
    clear hc
    go_enter Tryd.func17, Tryd.ntmps17
    go_wp2_with fail
    refine hd.mono ?_
    rintro e w1 ⟨rfl, hb⟩
    go_wp2_with fail
    refine wp_loop_rounds 1 ?_
    rw [rounds_succ]
    go_wp2_with fail
    go_ret
    exact ⟨rfl, hb⟩
  | true =>
    have hd : Calls Tryd.prog 29 #[.string s] w fun e w' => (∃ at0 cap rs, e = .returned (.tuple #[.slice at0 rs.length cap, .int .i64 0]) ∧ (∀ j u, (natCells rs)[j]? = some u → ∃ g, at0 = some ⟨g, 0, none⟩ ∧ w.heap.size ≤ g ∧ g < w'.heap.size ∧ w'.cell? ⟨g, j, none⟩ = some u) ∧ rs.length ≤ s.size ∧ rs.all plainN = P) ∧ Below w.heap.size w w' := hc.mono (by
      rintro e w' ⟨h, hb⟩
      rw [if_pos rfl] at h
      obtain ⟨v, rs, rfl, hrow, h1, h2⟩ := h
      obtain ⟨_, at0, cap, rfl, h3⟩ := ownsRow_slice hrow
      exact ⟨⟨at0, cap, rs, rfl, h3, h1, h2⟩, hb⟩)
    clear hc
    go_enter Tryd.func17, Tryd.ntmps17
    go_wp2_with fail
    refine hd.mono ?_
    rintro e w1 ⟨⟨at0, cap, rs, rfl, hcell, hlen, hall⟩, hb⟩
    obtain ⟨m, hm⟩ : ∃ m, rs.length = m := ⟨_, rfl⟩
    rw [hm] at hlen ⊢
    have HM := Lib.hid hm
    have HC := Lib.hid hcell
    have HA := Lib.hid hall
    have HB := Lib.hid hb
    clear hm hcell hall hb
    go_wp2_with fail
    go_loopw [5] (fun i W => ∃ t : Nat, t ≤ m ∧ i = .int .i64 (t : Int) ∧ W = w1 ∧ (rs.take t).all plainN = true) (fun i _ => m - (Lib.intOf i).toNat)
    case atStart => exact ⟨0, by omega, rfl, rfl, rfl⟩
    case round =>
      obtain ⟨t, ht, rfl, rfl, hpre⟩ := hrel
      by_cases hlt : t < m
      · have i0 : (t : Int) < (m : Int) := by omega
        obtain ⟨x, hx⟩ : ∃ x, rs[t]? = some x := ⟨_, List.getElem?_eq_getElem (by rw [HM.out]; exact hlt)⟩
        obtain ⟨g, rfl, _, _, hcl⟩ := HC.out t (.int .i64 (x : Int)) (by unfold natCells; rw [List.getElem?_map, hx]; rfl)
        have hcall := fun w => plainN_any x w
        have hnext : (rs.take (t + 1)).all plainN = ((rs.take t).all plainN && plainN x) := by
          rw [List.take_add_one, hx, List.all_append]
          simp
        obtain ⟨b, hbx⟩ : ∃ b, plainN x = b := ⟨_, rfl⟩
        rw [hbx] at hcall hnext
        have HX := Lib.hid hx
        clear hx
        cases b with
        | true =>
          rw [hpre] at hnext
          go_wp2_with fail
          refine (hcall _).mono ?_
          rintro e w2 ⟨rfl, rfl⟩
          go_wp2_with fail
          go_roundw
          case rel => exact ⟨t + 1, by omega, by simp, trivial, hnext⟩
          case measure => simp [Lib.intOf]; omega
        | false =>
          obtain rfl : P = false := by
            rw [← HA.out, Bool.eq_false_iff]
            intro h
            have := List.all_eq_true.1 h x (List.mem_of_getElem? HX.out)
            rw [hbx] at this
            exact absurd this (by decide)
          go_wp2_with fail
          refine (hcall _).mono ?_
          rintro e w2 ⟨rfl, rfl⟩
          go_wp2_with fail
          go_ret
          exact ⟨rfl, HB.out⟩
      · obtain rfl : t = m := by omega
        obtain rfl : P = true := by
          rw [← HA.out, ← hpre, ← HM.out, List.take_length]
        have i0 : ¬ (t : Int) < (t : Int) := by omega
        go_wp2_with fail
        go_ret
        exact ⟨rfl, HB.out⟩
end Go.Proofs.YtofikmdfiimbbaaDoor
