/- What digits are worth; texts of digits, by the document's answer. -/
import Derived.Test.YtfafidholldjlaaDoorZM
set_option linter.unusedVariables false
set_option linter.unusedSimpArgs false
namespace Go.Proofs.YtfafidholldjlaaDoor
open Go.RowKit
/-- What a digit is worth; below 0: it is none. -/
def valI (c : Nat) : Int := if 48 ≤ c ∧ c ≤ 57 then (c : Int) - 48 else if 97 ≤ c ∧ c ≤ 102 then (c : Int) - 87 else -1
theorem valI_lt (c : Nat) : valI c < 16 := by unfold valI; split <;> (try split) <;> omega
theorem valI_ge (c : Nat) : -1 ≤ valI c := by unfold valI; split <;> (try split) <;> omega
/-- Is a text one of digits, an even number of them? -/
def hexOK (s : ByteArray) : Prop := s.size % 2 = 0 ∧ ∀ i, i < s.size → 0 ≤ valI (byteAt s i)
/-- The bytes of the first pairs of digits. -/
def pairAt (s : ByteArray) (i : Nat) : UInt8 := UInt8.ofNat (16 * (valI (byteAt s (2 * i))).toNat + (valI (byteAt s (2 * i + 1))).toNat)
def unhexTo (s : ByteArray) (t : Nat) : ByteArray := ⟨((List.range t).map (pairAt s)).toArray⟩
theorem unhexTo_size (s : ByteArray) (t : Nat) : (unhexTo s t).size = t := by
  show ((List.range t).map (pairAt s)).toArray.size = t
  simp
theorem unhexTo_succ (s : ByteArray) (t : Nat) : unhexTo s t ++ ⟨#[pairAt s t]⟩ = unhexTo s (t + 1) := by
  apply ByteArray.ext
  rw [ByteArray.data_append]
  apply Array.toList_inj.1
  simp [unhexTo, List.range_succ]
set_option maxRecDepth 100000 in
set_option maxHeartbeats 1000000 in
theorem ref_digit (c : Nat) (hc : c < 256) (w : World) : Calls Tryd.prog 80 #[.int .u8 (c : Int)] w fun e w' => e = .returned (.int .i64 (valI c)) ∧ w = w' := by
  by_cases h1 : 48 ≤ c ∧ c ≤ 57
  · have e : valI c = (c : Int) - 48 := by unfold valI; rw [if_pos h1]
    have a1 : (48 : Int) ≤ (c : Int) := by omega
    have a2 : (c : Int) ≤ 57 := by omega
    rw [e]
    go_enter Tryd.func80, Tryd.ntmps80
    go_wp2_with fail
    go_ret
    exact ⟨rfl, rfl⟩
  · by_cases h2 : 97 ≤ c ∧ c ≤ 102
    · have e : valI c = (c : Int) - 97 + 10 := by unfold valI; rw [if_neg h1, if_pos h2]; omega
      have a1 : (97 : Int) ≤ (c : Int) := by omega
      have a2 : (c : Int) ≤ 102 := by omega
      rw [e]
      go_enter Tryd.func80, Tryd.ntmps80
      go_wp2_with fail
      go_ret
      exact ⟨rfl, rfl⟩
    · have e : valI c = -1 := by unfold valI; rw [if_neg h1, if_neg h2]
      have b1 : (c : Int) < 256 := by omega
      have b0 : (0 : Int) ≤ (c : Int) := by omega
      rw [e]
      by_cases g1 : (c : Int) < 48
      · have g2 : (c : Int) < 97 := by omega
        go_enter Tryd.func80, Tryd.ntmps80
        go_wp2_with fail
        go_ret
        exact ⟨rfl, rfl⟩
      · have g1' : (57 : Int) < (c : Int) := by omega
        by_cases g2 : (c : Int) < 97
        · go_enter Tryd.func80, Tryd.ntmps80
          go_wp2_with fail
          go_ret
          exact ⟨rfl, rfl⟩
        · have g2' : (102 : Int) < (c : Int) := by omega
          go_enter Tryd.func80, Tryd.ntmps80
          go_wp2_with fail
          go_ret
          exact ⟨rfl, rfl⟩
theorem conv_one (x : UInt8) (W : World) (g : Nat) (v : Int) (hv : v = (x.toNat : Int)) (h : W.heap[g]? = some (.cells #[.int .u8 v] 5 (0, 0))) :
    (convert 40 9 (.slice (some ⟨g, 0, none⟩) 1 1)).run Tryd.prog W = .ok (.string ⟨#[x]⟩) W := by
  subst hv
  refine run_convert_bytes_back (P := Tryd.prog) W 40 9 5 ⟨g, 0, none⟩ 1 [x] Tryd.underlying40 Tryd.underlying5 Tryd.underlying9 (fun j hj => ?_)
  obtain rfl : j = 0 := by simpa using hj
  rw [Addr.add_lit, Nat.zero_add, cell_of h 0]
  rfl
set_option maxRecDepth 100000 in
set_option maxHeartbeats 1000000 in
theorem refUnhex_any (s : ByteArray) (hs : s.size ≤ 1000000) (w : World) : Calls Tryd.prog 56 #[.string s] w fun e w' => (∃ r er, e = .returned (.tuple #[.string r, .int .i64 er]) ∧ ((hexOK s ∧ r = unhexTo s (s.size / 2) ∧ er = 0) ∨ (¬ hexOK s ∧ r = ⟨#[]⟩ ∧ er = 30))) ∧ Below w.heap.size w w' := by
  obtain ⟨R, hR⟩ : ∃ R, unhexTo s (s.size / 2) = R := ⟨_, rfl⟩
  rw [hR]
  have HR := Lib.hid hR
  clear hR
  go_enter Tryd.func56, Tryd.ntmps56
  go_wp2_with fail
  go_loopw [4, 5] (fun v i W => ∃ t : Nat, 2 * t ≤ s.size ∧ v = .string (unhexTo s t) ∧ i = .int .i64 ((2 * t : Nat) : Int) ∧ (∀ j, j < 2 * t → 0 ≤ valI (byteAt s j)) ∧ Below w.heap.size w W) (fun _ i _ => s.size - (intOf i).toNat)
  case atStart => exact ⟨0, by omega, rfl, rfl, fun j hj => absurd hj (by omega), Below.refl _ _⟩
  case round =>
    obtain ⟨t, ht, rfl, rfl, hg, hbl⟩ := hrel
    have Hg := Lib.hid hg
    have Hbl := Lib.hid hbl
    clear hg hbl
    have i2 : (s.size : Int) ≤ 1000000 := by omega
    obtain ⟨j, hj⟩ : ∃ j, 2 * t = j := ⟨_, rfl⟩
    rw [hj]
    by_cases hlt : j < s.size
    · have i0 : (j : Int) < (s.size : Int) := by omega
      by_cases hodd : j + 1 < s.size
      · have i1 : (j : Int) + 1 < (s.size : Int) := by omega
        have q0 := fun W => index_at s (j : Int) j rfl hlt W
        have q1 := fun W => index_at s ((j : Int) + 1) (j + 1) (by omega) hodd W
        have b0 := byteAt_lt s j
        have b1 := byteAt_lt s (j + 1)
        have hd0 := ref_digit (byteAt s j) b0
        have hd1 := ref_digit (byteAt s (j + 1)) b1
        have HD0 := Lib.hid hd0
        have HD1 := Lib.hid hd1
        clear hd0 hd1
        obtain ⟨x0, hx0⟩ : ∃ x, byteAt s j = x := ⟨_, rfl⟩
        obtain ⟨x1, hx1⟩ : ∃ x, byteAt s (j + 1) = x := ⟨_, rfl⟩
        rw [hx0] at q0 b0 HD0
        rw [hx1] at q1 b1 HD1
        obtain ⟨d0, hd0⟩ : ∃ d, valI x0 = d := ⟨_, rfl⟩
        obtain ⟨d1, hd1⟩ : ∃ d, valI x1 = d := ⟨_, rfl⟩
        have d0a : d0 < 16 := by rw [← hd0]; exact valI_lt _
        have d0b : -1 ≤ d0 := by rw [← hd0]; exact valI_ge _
        have d1a : d1 < 16 := by rw [← hd1]; exact valI_lt _
        have d1b : -1 ≤ d1 := by rw [← hd1]; exact valI_ge _
        have V0 : Hid (valI x0 = d0) := Lib.hid hd0
        have V1 : Hid (valI x1 = d1) := Lib.hid hd1
        rw [hd0] at HD0
        rw [hd1] at HD1
        have HX0 : Hid (valI (byteAt s j) = d0) := Lib.hid (by rw [hx0, hd0])
        have HX1 : Hid (valI (byteAt s (j + 1)) = d1) := Lib.hid (by rw [hx1, hd1])
        clear hx0 hx1 hd0 hd1
        go_wp2_with fail
        refine (HD0.out _).mono ?_
        rintro e w' ⟨rfl, rfl⟩
        by_cases n0 : d0 < 0
        · clear q0 q1
          go_wp2_with fail
          exact bodyPost_ret (v := _) (by simp [results, Tryd.results56, go_sem]) rfl ⟨⟨_, _, rfl, .inr ⟨fun hk => absurd (hk.2 j hlt) (by rw [HX0.out]; omega), rfl, rfl⟩⟩, Hbl.out⟩
        · go_wp2_with fail
          refine (HD1.out _).mono ?_
          rintro e w' ⟨rfl, rfl⟩
          by_cases n1 : d1 < 0
          · clear q0 q1
            go_wp2_with fail
            exact bodyPost_ret (v := _) (by simp [results, Tryd.results56, go_sem]) rfl ⟨⟨_, _, rfl, .inr ⟨fun hk => absurd (hk.2 (j + 1) hodd) (by rw [HX1.out]; omega), rfl, rfl⟩⟩, Hbl.out⟩
          · go_wp2_with fail
            obtain ⟨p0, rfl⟩ : ∃ p : Nat, d0 = p := ⟨d0.toNat, by omega⟩
            obtain ⟨p1, rfl⟩ : ∃ p : Nat, d1 = p := ⟨d1.toNat, by omega⟩
            obtain ⟨a, ha⟩ : ∃ a, 16 * p0 = a := ⟨_, rfl⟩
            obtain ⟨b, hb⟩ : ∃ b, a + p1 = b := ⟨_, rfl⟩
            have hpx : pairAt s t = UInt8.ofNat b := by unfold pairAt; rw [hj, HX0.out, HX1.out, ← hb, ← ha]; rfl
            have hsu := unhexTo_succ s t
            rw [hpx] at hsu
            have hb256 : b < 256 := by omega
            have hpn : (UInt8.ofNat b).toNat = b := by rw [UInt8.toNat_ofNat']; omega
            have cv1 := conv_one (UInt8.ofNat b) (wr.alloc (.cells #[.int .u8 (b : Int)] 5)) wr.heap.size (b : Int) (by rw [hpn]) (alloc_heap _ _)
            have cv2 := conv_one (UInt8.ofNat b) (wr.alloc (.cells #[.int .u8 (b : Int)] 5)).drew wr.heap.size (b : Int) (by rw [hpn]) (alloc_heap wr _)
            have hus := unhexTo_size s t
            have e1 : (⟨#[UInt8.ofNat b]⟩ : ByteArray).size = 1 := rfl
            have HSU := Lib.hid hsu
            clear hsu hpx hpn
            generalize (⟨#[UInt8.ofNat b]⟩ : ByteArray) = y at cv1 cv2 e1 HSU
            generalize hu : unhexTo s t = u at hus HSU ⊢
            have HU := Lib.hid hu
            clear hu
            have l1 : (u.size : Int) ≤ 8388608 := by omega
            have l2 : (y.size : Int) ≤ 8388608 := by omega
            have l3 : u.size + y.size ≤ 9223372036854775807 := by omega
            have s1 : IntKind.i64.wrap ((j : Int) + 1) = (j : Int) + 1 := IntWalk.i64_in _ (by omega)
            have m0 : IntKind.i64.wrap (16 * (p0 : Int)) = (a : Int) := by rw [IntWalk.i64_in _ (by omega)]; omega
            have m1 : IntKind.i64.wrap ((a : Int) + (p1 : Int)) = (b : Int) := by rw [IntWalk.i64_in _ (by omega)]; omega
            have m2 : IntKind.u8.wrap (b : Int) = (b : Int) := by rw [IntKind.wrap_u8]; omega
            have B0 := Lib.hid b0
            have B1 := Lib.hid b1
            have HDD : Hid (∀ c : Nat, c < 256 → ∀ w : World, Calls Tryd.prog 80 #[.int .u8 (c : Int)] w fun e w' => e = .returned (.int .i64 (valI c)) ∧ w = w') := Lib.hid (fun c hc w => ref_digit c hc w)
            have z0 : (0 : Int) ≤ (j : Int) := by omega
            have z1 : (0 : Int) ≤ (j : Int) + 1 := by omega
            have I2 := Lib.hid i2
            have HJ := Lib.hid hj
            have HT := Lib.hid ht
            clear d0a d1a d0b d1b n0 n1 b0 b1 ha hb hb256 hj ht hus e1 i2 hs
            go_region_with (first
              | (go_at_call 80; refine (HDD.out _ (by first | exact B0.out | exact B1.out) _).mono ?_; rintro e w' ⟨rfl, rfl⟩; first | rw [V0.out] | rw [V1.out]))
            clear s1 m0 m1 m2 cv1 cv2 q0 q1
            all_goals have i2 := I2.out
            all_goals go_wp2_with fail
            all_goals
              go_roundw
              case rel =>
                refine ⟨t + 1, by have := HJ.out; omega, by rw [HSU.out], by have := HJ.out; go_num, ?_, ?_⟩
                · intro k hk
                  by_cases h1 : k < 2 * t
                  · exact Hg.out k h1
                  · by_cases h2 : k = j
                    · rw [h2, HX0.out]; omega
                    · have h3 : k = j + 1 := by have := HJ.out; omega
                      rw [h3, HX1.out]; omega
                · first
                    | exact (Hbl.out.alloc Hbl.out.size _).drew
                    | exact Hbl.out.alloc Hbl.out.size _
              case measure => simp [intOf]; omega
      · have i1 : (s.size : Int) ≤ (j : Int) + 1 := by omega
        go_wp2_with fail
        exact bodyPost_ret (v := _) (by simp [results, Tryd.results56, go_sem]) rfl ⟨⟨_, _, rfl, .inr ⟨fun hk => absurd hk.1 (by omega), rfl, rfl⟩⟩, Hbl.out⟩
    · have hev : s.size = j := by omega
      have hok : hexOK s := ⟨by omega, fun k hk => Hg.out k (by omega)⟩
      have et : t = s.size / 2 := by omega
      have i0 : ¬ ((j : Int) < (s.size : Int)) := by omega
      have HOK := Lib.hid hok
      clear hok
      have hu : unhexTo s t = R := by rw [← HR.out, et]
      rw [hu]
      clear hu hev
      go_wp2_with fail
      exact bodyPost_ret (v := _) (by simp [results, Tryd.results56, go_sem]) rfl ⟨⟨_, _, rfl, .inl ⟨HOK.out, rfl, rfl⟩⟩, Hbl.out⟩
end Go.Proofs.YtfafidholldjlaaDoor
