/- Digits and texts tell each other: in plain Lean. -/
import Derived.Test.YtfafidholldjlaaDoorZX
set_option linter.unusedVariables false
set_option linter.unusedSimpArgs false
namespace Go.Proofs.YtfafidholldjlaaDoor
open Go.RowKit
def pairOf (a b : UInt8) : UInt8 := UInt8.ofNat (16 * (valI a.toNat).toNat + (valI b.toNat).toNat)
def unhexL : List UInt8 → List UInt8
  | a :: b :: r => pairOf a b :: unhexL r
  | _ => []
def okL (l : List UInt8) : Prop := l.length % 2 = 0 ∧ ∀ b, b ∈ l → 0 ≤ valI b.toNat
theorem pairs_list : ∀ l : List UInt8, (List.range (l.length / 2)).map (fun i => pairOf (l.getD (2 * i) 0) (l.getD (2 * i + 1) 0)) = unhexL l
  | [] => rfl
  | [a] => by simp [unhexL]
  | a :: b :: r => by
    have ih := pairs_list r
    have e : (a :: b :: r).length / 2 = r.length / 2 + 1 := by simp; omega
    rw [e, List.range_succ_eq_map, List.map_cons, List.map_map]
    show _ :: _ = pairOf a b :: unhexL r
    rw [← ih]
    rfl
theorem unhex_list (s : ByteArray) : unhexTo s (s.size / 2) = ⟨(unhexL s.data.toList).toArray⟩ := by
  rw [← pairs_list]
  have e : s.data.toList.length = s.size := rfl
  rw [e]
  rfl
theorem ok_list (s : ByteArray) : hexOK s ↔ okL s.data.toList := by
  have e : s.data.toList.length = s.size := rfl
  unfold hexOK okL
  rw [e]
  refine and_congr_right fun _ => ⟨fun h b hb => ?_, fun h i hi => ?_⟩
  · obtain ⟨i, hi, rfl⟩ := List.getElem_of_mem hb
    have := h i hi
    unfold byteAt at this
    rw [List.getD_eq_getElem?_getD, List.getElem?_eq_getElem hi] at this
    exact this
  · unfold byteAt
    have hi' : i < s.data.toList.length := hi
    rw [List.getD_eq_getElem?_getD, List.getElem?_eq_getElem hi']
    exact h _ (List.getElem_mem hi')
theorem val_dig : ∀ a : Fin 16, valI (dig a.val).toNat = (a.val : Int) := by decide
theorem dig_val : ∀ c : Fin 256, 0 ≤ valI c.val → dig (valI c.val).toNat = UInt8.ofNat c.val := by decide +kernel
theorem pair_dig (b : UInt8) : pairOf (dig (b.toNat / 16)) (dig (b.toNat % 16)) = b := by
  have hb := UInt8.toNat_lt b
  unfold pairOf
  rw [val_dig ⟨b.toNat / 16, by omega⟩, val_dig ⟨b.toNat % 16, by omega⟩]
  simp only [Int.toNat_natCast]
  rw [show 16 * (b.toNat / 16) + b.toNat % 16 = b.toNat by omega]
  exact UInt8.ofNat_toNat
theorem unhex_hexOf : ∀ l : List UInt8, unhexL (hexOf l) = l
  | [] => rfl
  | b :: l => by
    have e : hexOf (b :: l) = dig (b.toNat / 16) :: dig (b.toNat % 16) :: hexOf l := by simp [hexOf]
    rw [e]
    show pairOf _ _ :: unhexL (hexOf l) = _
    rw [pair_dig, unhex_hexOf l]
theorem dig_ok (a : Nat) (ha : a < 16) : 0 ≤ valI (dig a).toNat := by
  rw [val_dig ⟨a, ha⟩]
  simp
theorem hexOf_mem (l : List UInt8) (c : UInt8) (h : c ∈ hexOf l) : ∃ a, a < 16 ∧ c = dig a := by
  simp only [hexOf, List.mem_flatMap, List.mem_cons, List.not_mem_nil, or_false] at h
  obtain ⟨b, _, h⟩ := h
  have hb := UInt8.toNat_lt b
  rcases h with rfl | rfl
  · exact ⟨_, by omega, rfl⟩
  · exact ⟨_, by omega, rfl⟩
theorem hexOf_ok (l : List UInt8) : okL (hexOf l) := by
  refine ⟨by rw [hexOf_length]; omega, fun c hc => ?_⟩
  obtain ⟨a, ha, rfl⟩ := hexOf_mem l c hc
  exact dig_ok a ha
theorem pair_nat (a b : UInt8) (ha : 0 ≤ valI a.toNat) (hb : 0 ≤ valI b.toNat) : hexOf [pairOf a b] = [a, b] := by
  have a1 := valI_lt a.toNat
  have b1 := valI_lt b.toNat
  have e : (pairOf a b).toNat = 16 * (valI a.toNat).toNat + (valI b.toNat).toNat := by
    unfold pairOf
    rw [UInt8.toNat_ofNat']
    exact Nat.mod_eq_of_lt (by omega)
  have da := dig_val ⟨a.toNat, UInt8.toNat_lt a⟩ ha
  have db := dig_val ⟨b.toNat, UInt8.toNat_lt b⟩ hb
  simp only at da db
  show [dig _, dig _] ++ [] = _
  rw [e, show (16 * (valI a.toNat).toNat + (valI b.toNat).toNat) / 16 = (valI a.toNat).toNat by omega, show (16 * (valI a.toNat).toNat + (valI b.toNat).toNat) % 16 = (valI b.toNat).toNat by omega, da, db, UInt8.ofNat_toNat, UInt8.ofNat_toNat]
  rfl
theorem hexOf_unhex : ∀ l : List UInt8, okL l → hexOf (unhexL l) = l
  | [], _ => rfl
  | [a], h => by
    have := h.1
    simp at this
  | a :: b :: r, h => by
    have h2 : okL r := ⟨by have := h.1; simp at this; omega, fun c hc => h.2 c (List.mem_cons_of_mem _ (List.mem_cons_of_mem _ hc))⟩
    have e : hexOf (unhexL (a :: b :: r)) = hexOf [pairOf a b] ++ hexOf (unhexL r) := hexOf_append [pairOf a b] (unhexL r)
    rw [e, hexOf_unhex r h2, pair_nat a b (h.2 a (by simp)) (h.2 b (by simp))]
    rfl
theorem hexText_all (s : ByteArray) : hexText s s.size = ⟨(hexOf s.data.toList).toArray⟩ := by
  unfold hexText
  rw [List.take_of_length_le (show s.data.toList.length ≤ s.size from Nat.le_refl _)]
theorem hex_of_unhex (s : ByteArray) (h : hexOK s) : hexText (unhexTo s (s.size / 2)) (unhexTo s (s.size / 2)).size = s := by
  rw [hexText_all, unhex_list]
  show (⟨(hexOf (unhexL s.data.toList)).toArray⟩ : ByteArray) = s
  rw [hexOf_unhex _ ((ok_list s).1 h)]
/-- Unhex of a text's digits. -/
theorem unhex_hex (s : ByteArray) (hs : s.size ≤ 400000) (w : World) : Calls Tryd.prog 55 #[.string (hexText s s.size)] w fun e w' => e = .returned (.tuple #[.string s, .int .i64 0]) ∧ Below w.heap.size w w' := by
  have hz : (hexText s s.size).size = 2 * s.size := hexText_size s _ (Nat.le_refl _)
  refine (unhex_any (hexText s s.size) (by omega) w).mono ?_
  rintro e w' ⟨⟨r, er, rfl, h⟩, hb⟩
  have hok : hexOK (hexText s s.size) := by
    rw [ok_list, hexText_all]
    exact hexOf_ok _
  rcases h with ⟨h1, rfl, rfl⟩ | ⟨h1, _⟩
  · refine ⟨?_, hb⟩
    rw [unhex_list, hexText_all]
    show Ending.returned (.tuple #[.string ⟨(unhexL (hexOf s.data.toList)).toArray⟩, _]) = _
    rw [unhex_hexOf]
  · exact absurd hok h1
theorem unhex_good (s : ByteArray) (hs : s.size ≤ 1000000) (h : hexOK s) (w : World) : Calls Tryd.prog 55 #[.string s] w fun e w' => e = .returned (.tuple #[.string (unhexTo s (s.size / 2)), .int .i64 0]) ∧ Below w.heap.size w w' := by
  refine (unhex_any s hs w).mono ?_
  rintro e w' ⟨⟨r, er, rfl, ⟨_, rfl, rfl⟩ | ⟨h1, _⟩⟩, hb⟩
  · exact ⟨rfl, hb⟩
  · exact absurd h h1
theorem unhex_bad (s : ByteArray) (hs : s.size ≤ 1000000) (h : ¬ hexOK s) (w : World) : Calls Tryd.prog 55 #[.string s] w fun e w' => e = .returned (.tuple #[.string ⟨#[]⟩, .int .i64 30]) ∧ Below w.heap.size w w' := by
  refine (unhex_any s hs w).mono ?_
  rintro e w' ⟨⟨r, er, rfl, ⟨h1, _⟩ | ⟨_, rfl, rfl⟩⟩, hb⟩
  · exact absurd h1 h
  · exact ⟨rfl, hb⟩
end Go.Proofs.YtfafidholldjlaaDoor
