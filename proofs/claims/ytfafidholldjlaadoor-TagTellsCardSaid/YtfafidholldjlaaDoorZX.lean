/- The head of the Tag laws: a tag is known; the first two hundred bytes. -/
import Derived.Test.YtfafidholldjlaaDoorZS
import Derived.Test.YtfafidholldjlaaDoorZT
import Derived.Test.YtfafidholldjlaaDoorZW
import Derived.Test.YtfafidholldjlaaDoorZM
import Derived.Test.YtfafidholldjlaaDoorZK
set_option linter.unusedVariables false
set_option linter.unusedSimpArgs false
namespace Go.Proofs.YtfafidholldjlaaDoor
open Go.RowKit
theorem un_ma (w : World) : Calls Tryd.prog 55 #[.string (⟨#[52, 100, 54, 49]⟩ : ByteArray)] w fun e w' => e = .returned (.tuple #[.string (⟨#[77, 97]⟩ : ByteArray), .int .i64 0]) ∧ Below w.heap.size w w' := by
  refine (unhex_any (⟨#[52, 100, 54, 49]⟩ : ByteArray) (by decide) w).mono ?_
  rintro e w' ⟨⟨r, er, rfl, h⟩, hb⟩
  rcases h with ⟨h1, rfl, rfl⟩ | ⟨h1, _⟩
  · exact ⟨by rw [show unhexTo (⟨#[52, 100, 54, 49]⟩ : ByteArray) ((⟨#[52, 100, 54, 49]⟩ : ByteArray).size / 2) = (⟨#[77, 97]⟩ : ByteArray) by decide], hb⟩
  · exact absurd (⟨by decide, fun i hi => (by decide : ∀ i : Fin 4, 0 ≤ valI (byteAt (⟨#[52, 100, 54, 49]⟩ : ByteArray) i.val)) ⟨i, hi⟩⟩ : hexOK (⟨#[52, 100, 54, 49]⟩ : ByteArray)) h1
theorem un_great (w : World) : Calls Tryd.prog 55 #[.string (⟨#[52, 68]⟩ : ByteArray)] w fun e w' => e = .returned (.tuple #[.string ⟨#[]⟩, .int .i64 30]) ∧ Below w.heap.size w w' := by
  refine (unhex_any (⟨#[52, 68]⟩ : ByteArray) (by decide) w).mono ?_
  rintro e w' ⟨⟨r, er, rfl, h⟩, hb⟩
  rcases h with ⟨h1, _⟩ | ⟨_, rfl, rfl⟩
  · exact absurd (h1.2 1 (by decide)) (by decide)
  · exact ⟨rfl, hb⟩
theorem un_odd (w : World) : Calls Tryd.prog 55 #[.string (⟨#[52]⟩ : ByteArray)] w fun e w' => e = .returned (.tuple #[.string ⟨#[]⟩, .int .i64 30]) ∧ Below w.heap.size w w' := by
  refine (unhex_any (⟨#[52]⟩ : ByteArray) (by decide) w).mono ?_
  rintro e w' ⟨⟨r, er, rfl, h⟩, hb⟩
  rcases h with ⟨h1, _⟩ | ⟨_, rfl, rfl⟩
  · exact absurd (h1.1) (by decide)
  · exact ⟨rfl, hb⟩

theorem jefe_hex : hexText (⟨#[91, 220, 193, 70, 191, 96, 117, 78, 106, 4, 36, 38, 8, 149, 117, 199, 90, 0, 63, 8, 157, 39, 57, 131, 157, 236, 88, 185, 100, 236, 56, 67]⟩ : ByteArray) 32 = (⟨#[53, 98, 100, 99, 99, 49, 52, 54, 98, 102, 54, 48, 55, 53, 52, 101, 54, 97, 48, 52, 50, 52, 50, 54, 48, 56, 57, 53, 55, 53, 99, 55, 53, 97, 48, 48, 51, 102, 48, 56, 57, 100, 50, 55, 51, 57, 56, 51, 57, 100, 101, 99, 53, 56, 98, 57, 54, 52, 101, 99, 51, 56, 52, 51]⟩ : ByteArray) := by decide +kernel
theorem jefe_ne : ((⟨#[91, 220, 193, 70, 191, 96, 117, 78, 106, 4, 36, 38, 8, 149, 117, 199, 90, 0, 63, 8, 157, 39, 57, 131, 157, 236, 88, 185, 100, 236, 56, 67]⟩ : ByteArray) = (⟨#[77, 97]⟩ : ByteArray)) = False := eq_false (fun h => by have := congrArg ByteArray.size h; exact absurd this (by decide))
set_option maxRecDepth 100000 in
set_option maxHeartbeats 1000000 in
theorem tshown_any {B : Nat} {aw ab : Addr} {w : World} (hG : Glob B aw ab w) : Calls Tryd.prog 51 #[] w fun e w' => e = .returned (.bool true) ∧ Below w.heap.size w w' := by
  have hJ : (⟨(Sha.hmac (⟨#[74, 101, 102, 101]⟩ : ByteArray).data.toList (⟨#[119, 104, 97, 116, 32, 100, 111, 32, 121, 97, 32, 119, 97, 110, 116, 32, 102, 111, 114, 32, 110, 111, 116, 104, 105, 110, 103, 63]⟩ : ByteArray).data.toList).toArray⟩ : ByteArray) = (⟨#[91, 220, 193, 70, 191, 96, 117, 78, 106, 4, 36, 38, 8, 149, 117, 199, 90, 0, 63, 8, 157, 39, 57, 131, 157, 236, 88, 185, 100, 236, 56, 67]⟩ : ByteArray) := congrArg (fun l : List UInt8 => (⟨l.toArray⟩ : ByteArray)) Sha.jefe
  have hX : hexText (⟨#[91, 220, 193, 70, 191, 96, 117, 78, 106, 4, 36, 38, 8, 149, 117, 199, 90, 0, 63, 8, 157, 39, 57, 131, 157, 236, 88, 185, 100, 236, 56, 67]⟩ : ByteArray) (⟨#[91, 220, 193, 70, 191, 96, 117, 78, 106, 4, 36, 38, 8, 149, 117, 199, 90, 0, 63, 8, 157, 39, 57, 131, 157, 236, 88, 185, 100, 236, 56, 67]⟩ : ByteArray).size = (⟨#[53, 98, 100, 99, 99, 49, 52, 54, 98, 102, 54, 48, 55, 53, 52, 101, 54, 97, 48, 52, 50, 52, 50, 54, 48, 56, 57, 53, 55, 53, 99, 55, 53, 97, 48, 48, 51, 102, 48, 56, 57, 100, 50, 55, 51, 57, 56, 51, 57, 100, 101, 99, 53, 56, 98, 57, 54, 52, 101, 99, 51, 56, 52, 51]⟩ : ByteArray) := jefe_hex
  have hTs : (⟨#[91, 220, 193, 70, 191, 96, 117, 78, 106, 4, 36, 38, 8, 149, 117, 199, 90, 0, 63, 8, 157, 39, 57, 131, 157, 236, 88, 185, 100, 236, 56, 67]⟩ : ByteArray).size ≤ 1000000 := by decide
  have hE1 := fun w => equal_any (⟨#[91, 220, 193, 70, 191, 96, 117, 78, 106, 4, 36, 38, 8, 149, 117, 199, 90, 0, 63, 8, 157, 39, 57, 131, 157, 236, 88, 185, 100, 236, 56, 67]⟩ : ByteArray) (⟨#[91, 220, 193, 70, 191, 96, 117, 78, 106, 4, 36, 38, 8, 149, 117, 199, 90, 0, 63, 8, 157, 39, 57, 131, 157, 236, 88, 185, 100, 236, 56, 67]⟩ : ByteArray) hTs hTs w
  rw [decide_eq_true (rfl : (⟨#[91, 220, 193, 70, 191, 96, 117, 78, 106, 4, 36, 38, 8, 149, 117, 199, 90, 0, 63, 8, 157, 39, 57, 131, 157, 236, 88, 185, 100, 236, 56, 67]⟩ : ByteArray) = (⟨#[91, 220, 193, 70, 191, 96, 117, 78, 106, 4, 36, 38, 8, 149, 117, 199, 90, 0, 63, 8, 157, 39, 57, 131, 157, 236, 88, 185, 100, 236, 56, 67]⟩ : ByteArray))] at hE1
  have hE2 := fun w => equal_any (⟨#[91, 220, 193, 70, 191, 96, 117, 78, 106, 4, 36, 38, 8, 149, 117, 199, 90, 0, 63, 8, 157, 39, 57, 131, 157, 236, 88, 185, 100, 236, 56, 67]⟩ : ByteArray) (⟨#[77, 97]⟩ : ByteArray) hTs (by decide) w
  rw [decide_eq_false (fun h => by rw [jefe_ne] at h; exact h)] at hE2
  have hH := fun w => hex_any (⟨#[91, 220, 193, 70, 191, 96, 117, 78, 106, 4, 36, 38, 8, 149, 117, 199, 90, 0, 63, 8, 157, 39, 57, 131, 157, 236, 88, 185, 100, 236, 56, 67]⟩ : ByteArray) hTs w
  rw [hX] at hH
  have hT := tag_ok hG (⟨#[74, 101, 102, 101]⟩ : ByteArray) (⟨#[119, 104, 97, 116, 32, 100, 111, 32, 121, 97, 32, 119, 97, 110, 116, 32, 102, 111, 114, 32, 110, 111, 116, 104, 105, 110, 103, 63]⟩ : ByteArray) (by decide) (by decide)
  rw [hJ] at hT
  have hsl : ∀ W, (Instr.slice 9 (.string (⟨#[53, 98, 100, 99, 99, 49, 52, 54, 98, 102, 54, 48, 55, 53, 52, 101, 54, 97, 48, 52, 50, 52, 50, 54, 48, 56, 57, 53, 55, 53, 99, 55, 53, 97, 48, 48, 51, 102, 48, 56, 57, 100, 50, 55, 51, 57, 56, 51, 57, 100, 101, 99, 53, 56, 98, 57, 54, 52, 101, 99, 51, 56, 52, 51]⟩ : ByteArray)) none (some (.int .i64 8)) none).run Tryd.prog W = .ok (.string (⟨#[53, 98, 100, 99, 99, 49, 52, 54]⟩ : ByteArray)) W := by
    intro W
    have h := run_slice_string_h (P := Tryd.prog) W 9 (⟨#[53, 98, 100, 99, 99, 49, 52, 54, 98, 102, 54, 48, 55, 53, 52, 101, 54, 97, 48, 52, 50, 52, 50, 54, 48, 56, 57, 53, 55, 53, 99, 55, 53, 97, 48, 48, 51, 102, 48, 56, 57, 100, 50, 55, 51, 57, 56, 51, 57, 100, 101, 99, 53, 56, 98, 57, 54, 52, 101, 99, 51, 56, 52, 51]⟩ : ByteArray) Tryd.underlying9 .i64 8 (by omega) (by decide)
    exact h
  have hHs : (⟨#[53, 98, 100, 99, 99, 49, 52, 54, 98, 102, 54, 48, 55, 53, 52, 101, 54, 97, 48, 52, 50, 52, 50, 54, 48, 56, 57, 53, 55, 53, 99, 55, 53, 97, 48, 48, 51, 102, 48, 56, 57, 100, 50, 55, 51, 57, 56, 51, 57, 100, 101, 99, 53, 56, 98, 57, 54, 52, 101, 99, 51, 56, 52, 51]⟩ : ByteArray).size = 64 := by decide
  have HT := Lib.hid hT
  have HE1 := Lib.hid hE1
  have HE2 := Lib.hid hE2
  have HH := Lib.hid hH
  clear hT hE1 hE2 hH hJ hX hTs
  generalize (⟨#[91, 220, 193, 70, 191, 96, 117, 78, 106, 4, 36, 38, 8, 149, 117, 199, 90, 0, 63, 8, 157, 39, 57, 131, 157, 236, 88, 185, 100, 236, 56, 67]⟩ : ByteArray) = t at HT HE1 HE2 HH
  generalize (⟨#[53, 98, 100, 99, 99, 49, 52, 54, 98, 102, 54, 48, 55, 53, 52, 101, 54, 97, 48, 52, 50, 52, 50, 54, 48, 56, 57, 53, 55, 53, 99, 55, 53, 97, 48, 48, 51, 102, 48, 56, 57, 100, 50, 55, 51, 57, 56, 51, 57, 100, 101, 99, 53, 56, 98, 57, 54, 52, 101, 99, 51, 56, 52, 51]⟩ : ByteArray) = x at HH hsl hHs
  go_enter Tryd.func51, Tryd.ntmps51
  go_wp2_with fail
  refine HT.out.mono ?_
  rintro e w1 ⟨rfl, hb1⟩
  have HB1 := Lib.hid hb1
  clear hb1
  go_wp2_with fail
  refine (un_ma _).mono ?_
  rintro e w2 ⟨rfl, hb⟩
  have HB2 := Lib.hid (HB1.out.trans (hb.mono HB1.out.size))
  clear hb
  go_wp2_with fail
  refine (un_great _).mono ?_
  rintro e w3 ⟨rfl, hb⟩
  have HB3 := Lib.hid (HB2.out.trans (hb.mono HB2.out.size))
  clear hb
  go_wp2_with fail
  refine (un_odd _).mono ?_
  rintro e w4 ⟨rfl, hb⟩
  have HB4 := Lib.hid (HB3.out.trans (hb.mono HB3.out.size))
  clear hb
  go_wp2_with fail
  refine (HH.out _).mono ?_
  rintro e w5 ⟨rfl, hb⟩
  have HB5 := Lib.hid (HB4.out.trans (hb.mono HB4.out.size))
  clear hb
  go_wp2_with fail
  refine (HE1.out _).mono ?_
  rintro e w6 ⟨rfl, hb⟩
  have HB6 := Lib.hid (HB5.out.trans (hb.mono HB5.out.size))
  clear hb
  go_wp2_with fail
  refine (HE2.out _).mono ?_
  rintro e w7 ⟨rfl, hb⟩
  have HB7 := Lib.hid (HB6.out.trans (hb.mono HB6.out.size))
  clear hb
  go_wp2_with fail
  go_ret
  exact ⟨rfl, HB7.out⟩
theorem tcut_any (s : ByteArray) (hs : s.size ≤ maxLen) (w : World) : Calls Tryd.prog 52 #[.string s] w fun e w' => e = .returned (.string (front s 200)) ∧ w = w' := by
  have h0 : (s.size : Int) ≤ 9223372036854775807 := by unfold maxLen at hs; omega
  by_cases h : 200 < (s.size : Int)
  · have e : s.extract 0 200 = front s 200 := by
      apply ByteArray.ext
      apply Array.toList_inj.1
      simp [front]
    have E := Lib.hid e
    clear e
    go_enter Tryd.func52, Tryd.ntmps52
    go_wp2_with fail
    rw [E.out]
    go_ret
    exact ⟨rfl, rfl⟩
  · have e : front s 200 = s := front_all s 200 (by omega)
    have E := Lib.hid e
    clear e
    have h2 : (s.size : Int) ≤ 200 := by omega
    go_enter Tryd.func52, Tryd.ntmps52
    go_wp2_with fail
    go_ret
    exact ⟨by rw [E.out]; rfl, rfl⟩
theorem front_200 (s : ByteArray) : (front s 200).size ≤ 200 := by
  show (s.data.toList.take 200).toArray.size ≤ 200
  simp
  omega
end Go.Proofs.YtfafidholldjlaaDoor
