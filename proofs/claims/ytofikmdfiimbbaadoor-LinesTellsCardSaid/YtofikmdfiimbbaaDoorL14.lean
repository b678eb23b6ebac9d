/- What is known is so. -/
import Derived.Test.YtofikmdfiimbbaaDoorL13
set_option linter.unusedVariables false
set_option linter.unusedSimpArgs false
namespace Go.Proofs.YtofikmdfiimbbaaDoor
open Go.RowKit
theorem split_at (s : ByteArray) (l : Ln.B) (hl : s.data.toList = l) (hs : s.size ≤ 1000000) (ls : List Ln.Line) (no er : Int) (h : Ln.split l = (ls, no, er)) (w : World) (hG : Glob w) : Calls Tryd.prog 12 #[.string s] w fun e w' =>
    (∃ at0 g cap, e = .returned (.tuple #[.slice at0 ls.length cap, .int .i64 no, .int .i64 er]) ∧ LA w' at0 g 0 ls) ∧ Below w.heap.size w w' := by
  refine (split_any s hs w hG).mono ?_
  rintro e w' ⟨⟨v, he, hv⟩, hb⟩
  rw [hl, h] at he hv
  obtain ⟨at0, g, cap, rfl, hla⟩ := lines_LA hv
  exact ⟨⟨at0, g, cap, he, hla⟩, hb⟩
theorem LA_one (W : World) (no ind : Int) (s : ByteArray) : LA (W.alloc (.cells #[.int .i64 no, .int .i64 ind, .string s] 36)) (some ⟨W.heap.size, 0, none⟩) W.heap.size 0 [⟨no, ind, s.data.toList⟩] := by
  intro _
  refine ⟨rfl, by simp, fun i x hx => ?_⟩
  have h := alloc_heap W (.cells #[.int .i64 no, .int .i64 ind, .string s] 36)
  match i, hx with
  | 0, hx =>
    simp only [List.getElem?_cons_zero, Option.some.injEq] at hx
    subst hx
    exact ⟨cell_of h 0, cell_of h 1, cell_of h 2⟩
  | i + 1, hx => simp at hx
theorem LA_two (W : World) (n1 i1 n2 i2 : Int) (s1 s2 : ByteArray) : LA (W.alloc (.cells #[.int .i64 n1, .int .i64 i1, .string s1, .int .i64 n2, .int .i64 i2, .string s2] 36)) (some ⟨W.heap.size, 0, none⟩) W.heap.size 0 [⟨n1, i1, s1.data.toList⟩, ⟨n2, i2, s2.data.toList⟩] := by
  intro _
  refine ⟨rfl, by simp, fun i x hx => ?_⟩
  have h := alloc_heap W (.cells #[.int .i64 n1, .int .i64 i1, .string s1, .int .i64 n2, .int .i64 i2, .string s2] 36)
  match i, hx with
  | 0, hx =>
    simp only [List.getElem?_cons_zero, Option.some.injEq] at hx
    subst hx
    exact ⟨cell_of h 0, cell_of h 1, cell_of h 2⟩
  | 1, hx =>
    simp only [List.getElem?_cons_zero, List.getElem?_cons_succ, Option.some.injEq] at hx
    subst hx
    exact ⟨cell_of h 3, cell_of h 4, cell_of h 5⟩
  | i + 2, hx => simp at hx
set_option maxRecDepth 100000 in
set_option maxHeartbeats 2000000 in
theorem shown_any (w : World) (hG : Glob w) : Calls Tryd.prog 9 #[] w fun e w' => e = .returned (.bool true) ∧ Below w.heap.size w w' := by
  have HG := Lib.hid hG
  clear hG
  go_enter Tryd.func9, Tryd.ntmps9
  go_wp2_with fail
  refine (split_at _ _ rfl (by decide) _ _ _ Ln.known1 w HG.out).mono ?_
  rintro e w1 ⟨⟨a1, g1, c1, rfl, hl1⟩, hb1⟩
  have G1 := Lib.hid (HG.out.keep hb1 HG.out.1)
  have L1 := Lib.hid hl1
  have B1 := Lib.hid hb1
  clear hl1 hb1
  go_wp2_with fail
  have hq1 := LA_one w1 2 1 ⟨#[120]⟩
  refine (join_any [⟨2, 1, [120]⟩] _ _ 0 1 1 rfl (by decide) (by intro x hx; rw [List.mem_singleton.1 hx]; decide) _ (G1.out.step ((Below.refl _ _).alloc (Nat.le_refl _) _)) hq1).mono ?_
  rw [Ln.known4]
  rintro e w2 ⟨rfl, hb2⟩
  have b2 := ((Below.refl w1.heap.size w1).alloc (Nat.le_refl _) (.cells #[.int .i64 2, .int .i64 1, .string ⟨#[120]⟩] 36)).trans (hb2.mono (by simp))
  have G2 := Lib.hid (G1.out.step b2)
  have L2 := Lib.hid (L1.out.keep b2)
  have B2 := Lib.hid (B1.out.trans (b2.mono B1.out.size))
  clear hb2 hq1 b2
  go_wp2_with fail
  refine (split_at _ _ rfl (by decide) _ _ _ Ln.known2 w2 G2.out).mono ?_
  rintro e w3 ⟨⟨a3, g3, c3, rfl, _⟩, hb3⟩
  have G3 := Lib.hid (G2.out.step hb3)
  have L3 := Lib.hid (L2.out.keep hb3)
  have B3 := Lib.hid (B2.out.trans (hb3.mono B2.out.size))
  clear hb3
  go_wp2_with fail
  refine (split_at _ _ rfl (by decide) _ _ _ Ln.known3 w3 G3.out).mono ?_
  rintro e w4 ⟨⟨a4, g4, c4, rfl, _⟩, hb4⟩
  have G4 := Lib.hid (G3.out.step hb4)
  have L4 := Lib.hid (L3.out.keep hb4)
  have B4 := Lib.hid (B3.out.trans (hb4.mono B3.out.size))
  clear hb4
  go_wp2_with fail
  have hq5 := LA_one w4 1 0 ⟨#[35]⟩
  refine (join_any [⟨1, 0, [35]⟩] _ _ 0 1 1 rfl (by decide) (by intro x hx; rw [List.mem_singleton.1 hx]; decide) _ (G4.out.step ((Below.refl _ _).alloc (Nat.le_refl _) _)) hq5).mono ?_
  rw [Ln.known5]
  rintro e w5 ⟨rfl, hb5⟩
  have b5 := ((Below.refl w4.heap.size w4).alloc (Nat.le_refl _) (.cells #[.int .i64 1, .int .i64 0, .string ⟨#[35]⟩] 36)).trans (hb5.mono (by simp))
  have G5 := Lib.hid (G4.out.step b5)
  have L5 := Lib.hid (L4.out.keep b5)
  have B5 := Lib.hid (B4.out.trans (b5.mono B4.out.size))
  clear hb5 hq5 b5
  go_wp2_with fail
  have hq6 := LA_two w5 1 0 4 2 ⟨#[97, 58]⟩ ⟨#[45, 32, 99]⟩
  have L6 := L5.out.keep ((Below.refl w5.heap.size w5).alloc (Nat.le_refl _) (.cells #[.int .i64 1, .int .i64 0, .string ⟨#[97, 58]⟩, .int .i64 4, .int .i64 2, .string ⟨#[45, 32, 99]⟩] 36))
  refine (same_any _ _ _ _ _ _ _ _ 2 2 _ _ rfl rfl (by decide) _ L6 hq6).mono ?_
  rintro e w6 ⟨rfl, m, hw6⟩
  rw [show decide (([⟨1, 0, [97, 58]⟩, ⟨4, 2, [45, 32, 99]⟩] : List Ln.Line) = [⟨1, 0, (⟨#[97, 58]⟩ : ByteArray).data.toList⟩, ⟨4, 2, (⟨#[45, 32, 99]⟩ : ByteArray).data.toList⟩]) = true from by decide]
  have B6 : Below w.heap.size w w6 := by rw [hw6]; exact Below.drewN' (B5.out.alloc B5.out.size _) m
  clear hw6 hq6 L6
  go_wp2_with fail
  go_ret
  exact ⟨rfl, B6⟩
end Go.Proofs.YtofikmdfiimbbaaDoor
