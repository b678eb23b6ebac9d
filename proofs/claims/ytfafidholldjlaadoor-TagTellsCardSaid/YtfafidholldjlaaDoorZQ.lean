/- Where a sign stands among the digits. -/
import Derived.Test.YtfafidholldjlaaDoorZO
import Derived.Test.YtfafidholldjlaaDoorZT
import Derived.Lib.Bytealg
import Derived.Laws.Runes
set_option linter.unusedVariables false
set_option linter.unusedSimpArgs false
namespace Go.Proofs.YtfafidholldjlaaDoor
open Go.RowKit
theorem call114 (q : ByteArray) (c : Int) (w : World) : (callFunc 114 #[.string q, .int .u8 c]).run Tryd.prog w = .ok (.value (.int .i64 (Lib.indexByte q.data.toList c.toNat.toUInt8))) w := by
  have h := Lib.run_indexByteString (P := Tryd.prog) q c w
  have e : (callFunc 114 #[.string q, .int .u8 c]).run Tryd.prog w = ((do let v ← Extern.BytealgIndexByte.indexByte #[.string q, .int .u8 c]; pure (Next.value v)) : Sem Next).run Tryd.prog w := by kernel_rfl
  rw [e]
  simp only [Sem.run_bind, h, Result.andThen, Sem.run_pure]
set_option maxRecDepth 100000 in
theorem ib_in (q : ByteArray) (c : Int) (w : World) : Calls Tryd.prog 111 #[.string q, .int .u8 c] w fun e w' => e = .returned (.int .i64 (Lib.indexByte q.data.toList c.toNat.toUInt8)) ∧ w = w' := by
  have hib := call114 q c
  generalize Lib.indexByte q.data.toList c.toNat.toUInt8 = v at hib ⊢
  go_enter Tryd.func111, Tryd.ntmps111
  go_wp2_with fail
  go_ret
  exact ⟨rfl, rfl⟩
set_option maxRecDepth 100000 in
theorem ib_any (q : ByteArray) (c : Int) (w : World) : Calls Tryd.prog 103 #[.string q, .int .u8 c] w fun e w' => e = .returned (.int .i64 (Lib.indexByte q.data.toList c.toNat.toUInt8)) ∧ w = w' := by
  have hib := Lib.hid (ib_in q c)
  generalize Lib.indexByte q.data.toList c.toNat.toUInt8 = v at hib ⊢
  go_enter Tryd.func103, Tryd.ntmps103
  go_wp2_with fail
  refine (hib.out _).mono ?_
  rintro e w' ⟨rfl, rfl⟩
  go_wp2_with fail
  go_ret
  exact ⟨rfl, rfl⟩
theorem ib_none : ∀ (l : List UInt8) (c : UInt8), c ∉ l → Lib.indexByte l c = -1
  | [], _, _ => rfl
  | b :: l, c, h => by
    have h1 : (b == c) = false := by
      rw [beq_eq_false_iff_ne]
      intro e
      exact h (by rw [e]; exact List.mem_cons_self ..)
    have h2 := ib_none l c (fun hm => h (List.mem_cons_of_mem _ hm))
    unfold Lib.indexByte
    rw [h1, h2]
    rfl
set_option maxRecDepth 100000 in
theorem ib_digits : ∀ c : Fin 128, Lib.indexByte [48, 49, 50, 51, 52, 53, 54, 55, 56, 57, 97, 98, 99, 100, 101, 102] c.val.toUInt8 = valI c.val := by decide
set_option maxRecDepth 100000 in
theorem rune_low (c : Nat) (hc : c < 128) (w : World) : Calls Tryd.prog 91 #[.string ⟨#[48, 49, 50, 51, 52, 53, 54, 55, 56, 57, 97, 98, 99, 100, 101, 102]⟩, .int .i32 (c : Int)] w fun e w' => e = .returned (.int .i64 (valI c)) ∧ w = w' := by
  have i0 : (0 : Int) ≤ (c : Int) := by omega
  have i1 : (c : Int) < 128 := by omega
  have hd := ib_digits ⟨c, hc⟩
  have hx := fun w => ib_any ⟨#[48, 49, 50, 51, 52, 53, 54, 55, 56, 57, 97, 98, 99, 100, 101, 102]⟩ (c : Int) w
  have e1 : ((c : Int)).toNat = c := by omega
  rw [e1, show (⟨#[48, 49, 50, 51, 52, 53, 54, 55, 56, 57, 97, 98, 99, 100, 101, 102]⟩ : ByteArray).data.toList = [48, 49, 50, 51, 52, 53, 54, 55, 56, 57, 97, 98, 99, 100, 101, 102] from rfl, hd] at hx
  have HX := Lib.hid hx
  clear hx hd
  generalize valI c = v at HX ⊢
  go_enter Tryd.func91, Tryd.ntmps91
  go_wp2_with fail
  refine (HX.out _).mono ?_
  rintro e w' ⟨rfl, rfl⟩
  go_wp2_with fail
  go_ret
  exact ⟨rfl, rfl⟩
set_option maxRecDepth 100000 in
set_option maxHeartbeats 2000000 in
theorem rune_high (r : Int) (h0 : 128 ≤ r) (hv : Utf8.valid r = true) (h2 : r ≠ 65533) (w : World) : Calls Tryd.prog 91 #[.string ⟨#[48, 49, 50, 51, 52, 53, 54, 55, 56, 57, 97, 98, 99, 100, 101, 102]⟩, .int .i32 r] w fun e w' => e = .returned (.int .i64 (-1)) ∧ ∃ n, w' = w.drewN n := by
  obtain ⟨hs2, hs4, hl⟩ := encode_facts r hv h0
  have hlast := hl (by omega)
  obtain ⟨q, hq⟩ : ∃ q, Utf8.encode r = q := ⟨_, rfl⟩
  simp only [hq] at hs2 hs4 hlast
  have hge : ∀ (m : Nat) (hm : m < q.size), m = q.size - 1 → 128 ≤ (q[m]'hm).toNat := by
    rintro m hm rfl
    exact hlast
  have hv' := hv
  have c1 : r < 55296 ∨ (57344 ≤ r ∧ r ≤ 1114111) := by
    unfold Utf8.valid at hv
    simp at hv
    omega
  have hvr : ∀ w, Calls Tryd.prog 104 #[.int .i32 r] w fun e w' => e = .returned (.bool true) ∧ w = w' := by
    intro w
    rcases c1 with h | ⟨h3, h4⟩
    · go_enter Tryd.func104, Tryd.ntmps104
      go_wp2_with fail
      go_ret
      exact ⟨rfl, rfl⟩
    · have h5 : ¬ r < 55296 := by omega
      go_enter Tryd.func104, Tryd.ntmps104
      go_wp2_with fail
      go_ret
      exact ⟨rfl, rfl⟩
  have HVR := Lib.hid hvr
  have hr1 : ¬ r < 128 := by omega
  have hr2 : r ≤ 1114111 := by omega
  clear hvr hv hv' c1 hl
  have hns : q.size = 2 ∨ q.size = 3 ∨ q.size = 4 := by omega
  rcases hns with hn | hn | hn
  · have hx : ∃ L : Nat, (q[1]'(by omega)).toNat = L ∧ 128 ≤ L ∧ L < 256 := ⟨_, rfl, hge 1 _ (by omega), UInt8.toNat_lt _⟩
    obtain ⟨L, hL, l1, l2⟩ := hx
    have hne1 : ¬ ((49 : Int) = (L : Int)) := by omega
    have HIB : Hid (∀ w, Calls Tryd.prog 103 #[.string ⟨#[50, 51, 52, 53, 54, 55, 56, 57, 97, 98, 99, 100, 101, 102]⟩, .int .u8 (L : Int)] w fun e w' => e = .returned (.int .i64 (-1)) ∧ w = w') := by
      refine Lib.hid (fun w => ?_)
      have h := ib_any ⟨#[50, 51, 52, 53, 54, 55, 56, 57, 97, 98, 99, 100, 101, 102]⟩ (L : Int) w
      have hlt : ∀ b ∈ ([50, 51, 52, 53, 54, 55, 56, 57, 97, 98, 99, 100, 101, 102] : List UInt8), b.toNat < 128 := by decide
      rw [ib_none _ _ (by
        intro hm
        have e : ((L : Int).toNat.toUInt8).toNat = L := by simp; omega
        have := hlt _ hm
        omega)] at h
      exact h
    have hni : (q.size : Int) = 2 := by omega
    have hqx : ∀ W, (Instr.index 9 (.string q) (.int .i64 1)).run Tryd.prog W = .ok (.int .u8 (L : Int)) W := by
      intro W
      have h := index_at q 1 1 rfl (by omega) W
      rw [← byteAt_get q 1 (by omega), hL] at h
      exact h
    have hdx : ∀ W, (Instr.index 9 (.string ⟨#[48, 49, 50, 51, 52, 53, 54, 55, 56, 57, 97, 98, 99, 100, 101, 102]⟩) (.int .i64 1)).run Tryd.prog W = .ok (.int .u8 49) W := by
      intro W
      exact index_at digitsText 1 1 rfl (by decide) W
    have hsl : ∀ W, (Instr.slice 9 (.string ⟨#[48, 49, 50, 51, 52, 53, 54, 55, 56, 57, 97, 98, 99, 100, 101, 102]⟩) (some (.int .i64 2)) none none).run Tryd.prog W = .ok (.string ⟨#[50, 51, 52, 53, 54, 55, 56, 57, 97, 98, 99, 100, 101, 102]⟩) W := by
      intro W
      have h := run_slice_string_l (P := Tryd.prog) W 9 digitsText Tryd.underlying9 .i64 2 (by omega) (by decide)
      exact h
    have hwk : IntKind.i64.wrap (2 : Int) = 2 := by decide
    clear hge hlast hs2 hs4
    go_enter Tryd.func91, Tryd.ntmps91
    go_wp2_with fail
    refine (HVR.out _).mono ?_
    rintro e w' ⟨rfl, rfl⟩
    go_wp2_with fail
    go_step3
    go_wp2_with fail
    refine wp_loop_rounds 1 ?_
    rw [rounds_succ]
    go_wp2_with fail
    go_step3
    go_wp2_with fail
    go_quiet (fail)
    go_wp2_with fail
    go_quiet (first | (go_at_call 103; refine (HIB.out _).mono ?_; rintro e w1 ⟨rfl, rfl⟩; exact ⟨rfl, _, rfl⟩))
    go_wp2_with fail
    simp only [Exit.noGoto_ret, Exit.inBlock, Exit.then]
    go_wp2_with fail
    go_ret
    exact ⟨rfl, _, rfl⟩
  · have hx : ∃ L : Nat, (q[2]'(by omega)).toNat = L ∧ 128 ≤ L ∧ L < 256 := ⟨_, rfl, hge 2 _ (by omega), UInt8.toNat_lt _⟩
    obtain ⟨L, hL, l1, l2⟩ := hx
    have hne1 : ¬ ((50 : Int) = (L : Int)) := by omega
    have HIB : Hid (∀ w, Calls Tryd.prog 103 #[.string ⟨#[51, 52, 53, 54, 55, 56, 57, 97, 98, 99, 100, 101, 102]⟩, .int .u8 (L : Int)] w fun e w' => e = .returned (.int .i64 (-1)) ∧ w = w') := by
      refine Lib.hid (fun w => ?_)
      have h := ib_any ⟨#[51, 52, 53, 54, 55, 56, 57, 97, 98, 99, 100, 101, 102]⟩ (L : Int) w
      have hlt : ∀ b ∈ ([51, 52, 53, 54, 55, 56, 57, 97, 98, 99, 100, 101, 102] : List UInt8), b.toNat < 128 := by decide
      rw [ib_none _ _ (by
        intro hm
        have e : ((L : Int).toNat.toUInt8).toNat = L := by simp; omega
        have := hlt _ hm
        omega)] at h
      exact h
    have hni : (q.size : Int) = 3 := by omega
    have hqx : ∀ W, (Instr.index 9 (.string q) (.int .i64 2)).run Tryd.prog W = .ok (.int .u8 (L : Int)) W := by
      intro W
      have h := index_at q 2 2 rfl (by omega) W
      rw [← byteAt_get q 2 (by omega), hL] at h
      exact h
    have hdx : ∀ W, (Instr.index 9 (.string ⟨#[48, 49, 50, 51, 52, 53, 54, 55, 56, 57, 97, 98, 99, 100, 101, 102]⟩) (.int .i64 2)).run Tryd.prog W = .ok (.int .u8 50) W := by
      intro W
      exact index_at digitsText 2 2 rfl (by decide) W
    have hsl : ∀ W, (Instr.slice 9 (.string ⟨#[48, 49, 50, 51, 52, 53, 54, 55, 56, 57, 97, 98, 99, 100, 101, 102]⟩) (some (.int .i64 3)) none none).run Tryd.prog W = .ok (.string ⟨#[51, 52, 53, 54, 55, 56, 57, 97, 98, 99, 100, 101, 102]⟩) W := by
      intro W
      have h := run_slice_string_l (P := Tryd.prog) W 9 digitsText Tryd.underlying9 .i64 3 (by omega) (by decide)
      exact h
    have hwk : IntKind.i64.wrap (3 : Int) = 3 := by decide
    clear hge hlast hs2 hs4
    go_enter Tryd.func91, Tryd.ntmps91
    go_wp2_with fail
    refine (HVR.out _).mono ?_
    rintro e w' ⟨rfl, rfl⟩
    go_wp2_with fail
    go_step3
    go_wp2_with fail
    refine wp_loop_rounds 1 ?_
    rw [rounds_succ]
    go_wp2_with fail
    go_step3
    go_wp2_with fail
    go_quiet (fail)
    go_wp2_with fail
    go_quiet (first | (go_at_call 103; refine (HIB.out _).mono ?_; rintro e w1 ⟨rfl, rfl⟩; exact ⟨rfl, _, rfl⟩))
    go_wp2_with fail
    simp only [Exit.noGoto_ret, Exit.inBlock, Exit.then]
    go_wp2_with fail
    go_ret
    exact ⟨rfl, _, rfl⟩
  · have hx : ∃ L : Nat, (q[3]'(by omega)).toNat = L ∧ 128 ≤ L ∧ L < 256 := ⟨_, rfl, hge 3 _ (by omega), UInt8.toNat_lt _⟩
    obtain ⟨L, hL, l1, l2⟩ := hx
    have hne1 : ¬ ((51 : Int) = (L : Int)) := by omega
    have HIB : Hid (∀ w, Calls Tryd.prog 103 #[.string ⟨#[52, 53, 54, 55, 56, 57, 97, 98, 99, 100, 101, 102]⟩, .int .u8 (L : Int)] w fun e w' => e = .returned (.int .i64 (-1)) ∧ w = w') := by
      refine Lib.hid (fun w => ?_)
      have h := ib_any ⟨#[52, 53, 54, 55, 56, 57, 97, 98, 99, 100, 101, 102]⟩ (L : Int) w
      have hlt : ∀ b ∈ ([52, 53, 54, 55, 56, 57, 97, 98, 99, 100, 101, 102] : List UInt8), b.toNat < 128 := by decide
      rw [ib_none _ _ (by
        intro hm
        have e : ((L : Int).toNat.toUInt8).toNat = L := by simp; omega
        have := hlt _ hm
        omega)] at h
      exact h
    have hni : (q.size : Int) = 4 := by omega
    have hqx : ∀ W, (Instr.index 9 (.string q) (.int .i64 3)).run Tryd.prog W = .ok (.int .u8 (L : Int)) W := by
      intro W
      have h := index_at q 3 3 rfl (by omega) W
      rw [← byteAt_get q 3 (by omega), hL] at h
      exact h
    have hdx : ∀ W, (Instr.index 9 (.string ⟨#[48, 49, 50, 51, 52, 53, 54, 55, 56, 57, 97, 98, 99, 100, 101, 102]⟩) (.int .i64 3)).run Tryd.prog W = .ok (.int .u8 51) W := by
      intro W
      exact index_at digitsText 3 3 rfl (by decide) W
    have hsl : ∀ W, (Instr.slice 9 (.string ⟨#[48, 49, 50, 51, 52, 53, 54, 55, 56, 57, 97, 98, 99, 100, 101, 102]⟩) (some (.int .i64 4)) none none).run Tryd.prog W = .ok (.string ⟨#[52, 53, 54, 55, 56, 57, 97, 98, 99, 100, 101, 102]⟩) W := by
      intro W
      have h := run_slice_string_l (P := Tryd.prog) W 9 digitsText Tryd.underlying9 .i64 4 (by omega) (by decide)
      exact h
    have hwk : IntKind.i64.wrap (4 : Int) = 4 := by decide
    clear hge hlast hs2 hs4
    go_enter Tryd.func91, Tryd.ntmps91
    go_wp2_with fail
    refine (HVR.out _).mono ?_
    rintro e w' ⟨rfl, rfl⟩
    go_wp2_with fail
    go_step3
    go_wp2_with fail
    refine wp_loop_rounds 1 ?_
    rw [rounds_succ]
    go_wp2_with fail
    go_step3
    go_wp2_with fail
    go_quiet (fail)
    go_wp2_with fail
    go_quiet (first | (go_at_call 103; refine (HIB.out _).mono ?_; rintro e w1 ⟨rfl, rfl⟩; exact ⟨rfl, _, rfl⟩))
    go_wp2_with fail
    simp only [Exit.noGoto_ret, Exit.inBlock, Exit.then]
    go_wp2_with fail
    go_ret
    exact ⟨rfl, _, rfl⟩
end Go.Proofs.YtfafidholldjlaaDoor
