/- LinesRise. -/
import Derived.Test.YtofikmdfiimbbaaDoorL14
import Derived.Test.YtofikmdfiimbbaaDoorPf
import Derived.BigGuard
set_option linter.unusedVariables false
set_option linter.unusedSimpArgs false
namespace Go.Proofs.YtofikmdfiimbbaaDoor
open Go.RowKit
theorem split_at2 (s : ByteArray) (hs : s.size ≤ 1000000) (ls : List Ln.Line) (no er : Int) (h : Ln.split s.data.toList = (ls, no, er)) (w : World) (hG : Glob w) : Calls Tryd.prog 12 #[.string s] w fun e w' =>
    (∃ at0 g cap, e = .returned (.tuple #[.slice at0 ls.length cap, .int .i64 no, .int .i64 er]) ∧ LA w' at0 g 0 ls) ∧ Below w.heap.size w w' := split_at s _ rfl hs ls no er h w hG
theorem mem_len (s : Ln.B) : (Ln.split s).1.length ≤ s.length := by
  unfold Ln.split
  split
  · simp
  · split
    · simp
    · split
      · exact Nat.le_trans (lns_len _ _) (Ln.rows_size _)
      · simp
theorem last_get (S : ByteArray) (h : 0 < S.size) : S.data.toList.getLast? = some (S[S.size - 1]'(by omega)) := by
  have h1 : S.data.toList.length = S.size := text_size S
  rw [List.getLast?_eq_getElem?, h1, List.getElem?_eq_getElem (by rw [h1]; omega)]
  rfl
theorem first_get (S : ByteArray) (h : 0 < S.size) : S.data.toList.head? = some (S[0]'h) := by
  have h1 : S.data.toList.length = S.size := text_size S
  rw [List.head?_eq_getElem?, List.getElem?_eq_getElem (by rw [h1]; omega)]
  rfl
theorem byte_ne (c : UInt8) (k : Nat) (hk : k < 256) (h : some c ≠ some (UInt8.ofNat k)) : ((c.toNat : Int) == (k : Int)) = false := by
  have : ¬ (c.toNat : Int) = (k : Int) := by
    intro e
    apply h
    congr 1
    apply UInt8.toNat_inj.1
    rw [UInt8.toNat_ofNat']
    omega
  simpa using this
set_option maxRecDepth 100000 in
set_option maxHeartbeats 2000000 in
theorem rise_law (s : ByteArray) (hs : s.size ≤ maxLen) (w : World) (hG : Glob w) : Calls Tryd.prog 6 #[.string s] w fun e w' => e = .returned (.bool true) ∧ Below w.heap.size w w' := by
  have h0 : s.size ≤ 9223372036854775807 := by unfold maxLen at hs; omega
  have HCZ := cutB_size s
  obtain ⟨C, hC⟩ : ∃ C, cutB s = C := ⟨_, rfl⟩
  have hcut := fun w => cut_any s h0 w
  rw [hC] at hcut HCZ
  obtain ⟨ls, hls⟩ : ∃ ls, (Ln.split C.data.toList).1 = ls := ⟨_, rfl⟩
  obtain ⟨no, hno⟩ : ∃ no, (Ln.split C.data.toList).2.1 = no := ⟨_, rfl⟩
  obtain ⟨er, her⟩ : ∃ er, (Ln.split C.data.toList).2.2 = er := ⟨_, rfl⟩
  have hsp : Ln.split C.data.toList = (ls, no, er) := by rw [← hls, ← hno, ← her]
  have hrise := Ln.split_rise C.data.toList
  have hlen := mem_len C.data.toList
  have hn0 := Ln.split_no C.data.toList
  have hsl := Ln.split_len C.data.toList
  rw [hls] at hsl
  have her0 : er ≠ 0 → ls = [] := fun h => by rw [← hls]; exact Ln.split_none _ (by rw [her]; exact h)
  rw [hls] at hrise hlen
  rw [hno] at hn0
  rw [text_size] at hlen
  obtain ⟨n, hn⟩ : ∃ n, ls.length = n := ⟨_, rfl⟩
  rw [hn] at hlen
  have hcall := fun w hG => split_at2 C (by omega) ls no er hsp w hG
  rw [hn] at hcall
  have HG := Lib.hid hG
  have HN := Lib.hid hn
  have HCUT := Lib.hid hcut
  have HCALL := Lib.hid hcall
  have HR := Lib.hid hrise
  have HE := Lib.hid her0
  have HSL := Lib.hid hsl
  clear hG hn hcut hcall hrise hsp hls hno her hC her0 hsl
  go_enter Tryd.func6, Tryd.ntmps6
  go_wp2_with fail
  refine (shown_any w HG.out).mono ?_
  rintro e w1 ⟨rfl, hb1⟩
  have G1 := Lib.hid (HG.out.step hb1)
  have B1 := Lib.hid hb1
  clear hb1
  go_wp2_with fail
  refine (HCUT.out _).mono ?_
  rintro e w1' ⟨rfl, rfl⟩
  go_wp2_with fail
  refine (HCALL.out w1' G1.out).mono ?_
  rintro e w2 ⟨⟨a2, g2, c2, rfl, hl2⟩, hb2⟩
  have B2 := Lib.hid (B1.out.trans (hb2.mono B1.out.size))
  have L2 := Lib.hid hl2
  clear hb2 hl2
  go_wp2_with fail
  go_loopw [7, 8, 9] (fun a b _ wr => ∃ (i : Nat) (last : Int), a = .int .i64 last ∧ b = .int .i64 (i : Int) ∧ i ≤ n ∧ Ln.rise last (ls.drop i) ∧ Below w2.heap.size w2 wr) (fun _ b _ _ => n - (Lib.intOf b).toNat)
  case atStart => exact ⟨0, 0, rfl, rfl, Nat.zero_le _, by rw [List.drop_zero]; exact HR.out, Below.refl _ _⟩
  case round =>
    obtain ⟨i, last, rfl, rfl, hin, hri, hb⟩ := hrel
    by_cases hi : i < n
    · have h1 : (i : Int) < (n : Int) := by omega
      obtain ⟨x, hx⟩ : ∃ x, ls[i]? = some x := ⟨_, List.getElem?_eq_getElem (by rw [HN.out]; exact hi)⟩
      obtain ⟨ha, hg, hc⟩ := (L2.out.keep hb) (by intro e; rw [e] at hx; simp at hx)
      subst ha
      obtain ⟨c0, c1, c2'⟩ := hc i x hx
      simp only [Nat.zero_add] at c0 c1 c2'
      rw [drop_cons ls i x hx] at hri
      have hxl := HSL.out x (List.mem_of_getElem? hx)
      obtain ⟨no', ind, s'⟩ := x
      obtain ⟨r1, ⟨r2, r3, r4, r5, r6⟩, r7⟩ := hri
      simp only at c0 c1 c2' r1 r2 r3 r4 r5 r6 r7 hxl
      obtain ⟨S, hS⟩ : ∃ S : ByteArray, (⟨s'.toArray⟩ : ByteArray) = S := ⟨_, rfl⟩
      have hSs : s' = S.data.toList := by rw [← hS]
      rw [hS] at c2'
      subst hSs
      have hpos : 0 < S.size := by
        rw [← text_size]
        cases hd : S.data.toList with
        | nil => exact absurd hd r3
        | cons y u => simp
      have he : S.toList.isEmpty = false := by rw [ByteArray.toList_eq]; simpa using r3
      rw [first_get S hpos] at r4 r5
      rw [last_get S hpos] at r6
      have e4 : (((S[0]'hpos).toNat : Int) == 32) = false := byte_ne _ 32 (by decide) r4
      have e5 : (((S[0]'hpos).toNat : Int) == 35) = false := byte_ne _ 35 (by decide) r5
      have e6 : (((S[S.size - 1]'(by omega)).toNat : Int) == 32) = false := byte_ne _ 32 (by decide) r6
      rw [text_size] at hxl
      have vw : IntKind.i64.wrap ((S.size : Int) - 1) = (S.size : Int) - 1 := IntWalk.i64_in _ (by omega)
      have vi : IntKind.i64.wrap ((i : Int) + 1) = (i : Int) + 1 := IntWalk.i64_in _ (by omega)
      have q1 : ¬ no' ≤ last := by omega
      have q2 : ¬ ind < 0 := by omega
      have HR7 := Lib.hid r7
      have HB := Lib.hid hb
      clear r1 r2 r3 r4 r5 r6 r7 hc hx hS hb
      go_upto_region 9 with (fail)
      go_wp2_with fail
      go_roundw
      case rel => exact ⟨i + 1, no', rfl, by simp, by omega, HR7.out, HB.out.alloc HB.out.size _⟩
      case measure => simp [Lib.intOf]; omega
    · have h1 : ¬ (i : Int) < (n : Int) := by omega
      by_cases hz : er = 0
      · go_wp2_with fail
        go_ret
        exact ⟨rfl, B2.out.trans (hb.mono B2.out.size)⟩
      · have hl := HE.out hz
        obtain rfl : n = 0 := by rw [← HN.out, hl]; rfl
        go_wp2_with fail
        go_ret
        exact ⟨rfl, B2.out.trans (hb.mono B2.out.size)⟩
end Go.Proofs.YtofikmdfiimbbaaDoor
