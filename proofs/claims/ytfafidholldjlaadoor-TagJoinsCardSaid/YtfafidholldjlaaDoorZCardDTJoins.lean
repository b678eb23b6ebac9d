/- Proved: TagJoins answers true for every input, never panics, and its input reads as it did; the one condition: the listed variables hold what the program's own text lays in them. -/
import Derived.Test.YtfafidholldjlaaDoorZP
import Derived.Test.YtfafidholldjlaaDoorZK
import Derived.Test.YtfafidholldjlaaDoorZC
/- Which texts are the same: the world is left as it is. -/
set_option linter.unusedVariables false
set_option linter.unusedSimpArgs false
namespace Go.Proofs.YtfafidholldjlaaDoor
open Go.RowKit
set_option maxRecDepth 100000 in
set_option maxHeartbeats 1000000 in
theorem equal_same (a b : ByteArray) (ha : a.size ≤ 1000000) (hb : b.size ≤ 1000000) (w : World) : Calls Tryd.prog 59 #[.string a, .string b] w fun e w' => e = .returned (.bool (decide (a = b))) ∧ w' = w := by
  have x0 := i64_xor_word a.size b.size (by omega) (by omega)
  have hx0 : a.size ^^^ b.size < 4294967296 := Nat.xor_lt_two_pow (n := 32) (by omega) (by omega)
  have hz0 := xor_zero_iff a.size b.size
  obtain ⟨R, hR⟩ : ∃ R, decide (a = b) = R := ⟨_, rfl⟩
  rw [hR]
  have HR := Lib.hid hR
  clear hR
  generalize a.size ^^^ b.size = o0 at x0 hx0 hz0
  have la : (a.size : Int) ≤ 1000000 := by omega
  have lb : (b.size : Int) ≤ 1000000 := by omega
  have HR' := HR
  by_cases hs : (a.size : Int) < (b.size : Int)
  case' pos => obtain ⟨N, hN⟩ : ∃ N, b.size = N := ⟨_, rfl⟩
  case' neg => obtain ⟨N, hN⟩ : ∃ N, a.size = N := ⟨_, rfl⟩
  all_goals
    have hmx : max a.size b.size = N := by omega
    have HN := Lib.hid hN
    have HMX := Lib.hid hmx
    have X0 := Lib.hid x0
    clear hN hmx
    go_enter Tryd.func59, Tryd.ntmps59
    go_wp2_with fail
    go_loopw [5, 19] (fun v i W => ∃ t o : Nat, t ≤ N ∧ i = .int .i64 t ∧ v = .int .i64 o ∧ o < 4294967296 ∧ (o = 0 ↔ (a.size = b.size ∧ ∀ j, j < t → byteAt a j = byteAt b j)) ∧ W = w) (fun _ i _ => N - (intOf i).toNat)
    case atStart => exact ⟨0, o0, by omega, rfl, rfl, hx0, by rw [hz0]; exact ⟨fun h => ⟨h, fun j hj => absurd hj (by omega)⟩, fun h => h.1⟩, rfl⟩
    case round =>
      obtain ⟨t, o, ht, rfl, rfl, ho, hoi, hbl⟩ := hrel
      have HBL := Lib.hid hbl
      by_cases hlt : t < N
      · have hX' := byteAt_lt a t
        have hY' := byteAt_lt b t
        obtain ⟨X, hX⟩ : ∃ x, byteAt a t = x := ⟨_, rfl⟩
        obtain ⟨Y, hY⟩ : ∃ x, byteAt b t = x := ⟨_, rfl⟩
        rw [hX] at hX'
        rw [hY] at hY'
        have hxz := u8_xor_byte X Y hX' hY'
        have hz := xor_zero_iff X Y
        have hZ : X ^^^ Y < 256 := Nat.xor_lt_two_pow (n := 8) hX' hY'
        obtain ⟨Z, hZe⟩ : ∃ z, X ^^^ Y = z := ⟨_, rfl⟩
        rw [hZe] at hxz hz hZ
        have hor := i64_or_word o Z ho (by omega)
        have hO : o ||| Z < 4294967296 := Nat.or_lt_two_pow (n := 32) ho (by omega)
        have hoz := or_zero_iff o Z
        obtain ⟨O, hOe⟩ : ∃ z, o ||| Z = z := ⟨_, rfl⟩
        rw [hOe] at hor hO hoz
        have hoi' : O = 0 ↔ (a.size = b.size ∧ ∀ j, j < t + 1 → byteAt a j = byteAt b j) := by
          rw [hoz, hoi, hz, ← hX, ← hY]
          constructor
          · rintro ⟨⟨h1, h2⟩, h3⟩
            refine ⟨h1, fun j hj => ?_⟩
            by_cases hjt : j < t
            · exact h2 j hjt
            · obtain rfl : j = t := by omega
              exact h3
          · rintro ⟨h1, h2⟩
            exact ⟨⟨h1, fun j hj => h2 j (by omega)⟩, h2 t (by omega)⟩
        have HOI := Lib.hid hoi'
        have hN := HN.out
        have hmx := HMX.out
        have iz : (Z : Int) < 256 := by omega
        have iz0 : (0 : Int) ≤ (Z : Int) := by omega
        clear hoi hoi' hbl hz hoz hz0 x0 hx0 HR'
        by_cases ca : t < a.size
        · by_cases cb : t < b.size
          · first
              | exact absurd hlt (by omega)
              | (
                  have ia : (t : Int) < (a.size : Int) := by omega
                  have qa := byteAt_get a t ca
                  rw [hX] at qa
                  have ib : (t : Int) < (b.size : Int) := by omega
                  have qb := byteAt_get b t cb
                  rw [hY] at qb
                  have hxor : bits .xor .u8 (X : Int) (Y : Int) = (Z : Int) := hxz
                  clear hN hmx
                  go_wp2_with fail
                  go_roundw
                  case rel => exact ⟨t + 1, O, by omega, by go_num, rfl, hO, HOI.out, HBL.out⟩
                  case measure => simp [intOf]; omega)
          · first
              | exact absurd hlt (by omega)
              | (
                  have ey : Y = 0 := by rw [← hY]; exact byteAt_past b t (by omega)
                  subst ey
                  have ia : (t : Int) < (a.size : Int) := by omega
                  have qa := byteAt_get a t ca
                  rw [hX] at qa
                  have ib : ¬ ((t : Int) < (b.size : Int)) := by omega
                  have hxor : bits .xor .u8 (X : Int) 0 = (Z : Int) := hxz
                  clear hN hmx
                  go_wp2_with fail
                  go_roundw
                  case rel => exact ⟨t + 1, O, by omega, by go_num, rfl, hO, HOI.out, HBL.out⟩
                  case measure => simp [intOf]; omega)
        · by_cases cb : t < b.size
          · first
              | exact absurd hlt (by omega)
              | (
                  have ex : X = 0 := by rw [← hX]; exact byteAt_past a t (by omega)
                  subst ex
                  have ia : ¬ ((t : Int) < (a.size : Int)) := by omega
                  have ib : (t : Int) < (b.size : Int) := by omega
                  have qb := byteAt_get b t cb
                  rw [hY] at qb
                  have hxor : bits .xor .u8 0 (Y : Int) = (Z : Int) := hxz
                  clear hN hmx
                  go_wp2_with fail
                  go_roundw
                  case rel => exact ⟨t + 1, O, by omega, by go_num, rfl, hO, HOI.out, HBL.out⟩
                  case measure => simp [intOf]; omega)
          · exact absurd hlt (by omega)
      · obtain rfl : t = N := by omega
        have hN := HN.out
        have hmx := HMX.out
        have ia : ¬ ((t : Int) < (a.size : Int)) := by omega
        have ib : ¬ ((t : Int) < (b.size : Int)) := by omega
        have hfin : ((o : Int) == 0) = R := by
          rw [← HR.out]
          by_cases hab : a = b
          · have h0 : o = 0 := hoi.2 (by rw [← hmx]; exact (same_bytes a b).2 hab)
            rw [h0, decide_eq_true hab]
            rfl
          · have h0 : o ≠ 0 := fun h => hab ((same_bytes a b).1 (by rw [hmx]; exact hoi.1 h))
            rw [decide_eq_false hab, beq_eq_false_iff_ne]
            omega
        clear hN hmx
        go_wp2_with fail
        go_ret
        first | exact ⟨rfl, HBL.out⟩ | exact ⟨rfl, rfl⟩
end Go.Proofs.YtfafidholldjlaaDoor
/- The law TagEqual. -/
set_option linter.unusedVariables false
set_option linter.unusedSimpArgs false
namespace Go.Proofs.YtfafidholldjlaaDoor
open Go.RowKit
theorem text_longer (f g : ByteArray) (h : f.size ≠ g.size) : decide (f = g) = false := decide_eq_false (fun e => h (by rw [e]))
theorem split_byte (f : ByteArray) (k : Nat) (hk : k < f.size) : f = f.extract 0 k ++ ⟨#[UInt8.ofNat (byteAt f k)]⟩ ++ f.extract (k + 1) f.size := by
  apply ByteArray.ext
  apply Array.toList_inj.1
  have hk' : k < f.data.toList.length := hk
  have e : UInt8.ofNat (byteAt f k) = f.data.toList[k] := by
    unfold byteAt
    rw [List.getD_eq_getElem?_getD, List.getElem?_eq_getElem hk']
    exact UInt8.ofNat_toNat
  rw [e, ByteArray.data_append, ByteArray.data_append, ByteArray.data_extract, ByteArray.data_extract]
  have hs : f.data.size = f.size := rfl
  simp only [Array.toList_append, Array.toList_extract, List.drop_zero, Nat.sub_zero, List.extract_eq_take_drop]
  have hz : (List.drop (k + 1) f.data.toList).take (f.size - (k + 1)) = List.drop (k + 1) f.data.toList := List.take_of_length_le (by rw [List.length_drop]; exact Nat.le_refl _)
  rw [hz, List.append_assoc]
  show f.data.toList = List.take k f.data.toList ++ (f.data.toList[k] :: List.drop (k + 1) f.data.toList)
  rw [← List.drop_eq_getElem_cons hk', List.take_append_drop]
theorem extract_size (f : ByteArray) (k : Nat) (hk : k ≤ f.size) : (f.extract 0 k).size = k := by
  rw [ByteArray.size_extract]
  omega
theorem with_byte (f : ByteArray) (k c : Nat) (hk : k < f.size) (hc : c < 256) : decide (f = f.extract 0 k ++ ⟨#[UInt8.ofNat c]⟩ ++ f.extract (k + 1) f.size) = decide (byteAt f k = c) := by
  by_cases h : byteAt f k = c
  · rw [decide_eq_true h]
    subst h
    exact decide_eq_true (split_byte f k hk)
  · rw [decide_eq_false h]
    refine decide_eq_false (fun e => h ?_)
    have h1 := congrArg (fun z : ByteArray => z.data.toList[k]?) e
    have hk' : k < f.data.toList.length := hk
    have hps := extract_size f k (Nat.le_of_lt hk)
    have hpl : (f.extract 0 k).data.toList.length = k := hps
    simp only [ByteArray.data_append, Array.toList_append] at h1
    rw [List.append_assoc, List.getElem?_append_right (by omega), hpl, Nat.sub_self, List.getElem?_append_left (by simp), List.getElem?_eq_getElem hk'] at h1
    unfold byteAt
    rw [List.getD_eq_getElem?_getD, List.getElem?_eq_getElem hk']
    have h2 : f.data.toList[k] = UInt8.ofNat c := by simpa using h1
    show (f.data.toList[k]).toNat = c
    rw [h2, UInt8.toNat_ofNat']
    exact Nat.mod_eq_of_lt hc
theorem decide_symm (a b : ByteArray) : decide (a = b) = decide (b = a) := by
  by_cases h : a = b
  · subst h; rfl
  · rw [decide_eq_false h, decide_eq_false (fun e => h e.symm)]
set_option maxRecDepth 100000 in
set_option maxHeartbeats 1000000 in
theorem tequal_law (s : ByteArray) (n m : Int) (hs : s.size ≤ maxLen) {B : Nat} {aw ab : Addr} {w : World} (hG : DGlob B aw ab w) :
    Calls Tryd.prog 22 #[.string s, .int .i64 n, .int .i64 m] w fun e w' => e = .returned (.bool true) ∧ Below w.heap.size w w' := by
  have HG := Lib.hid hG
  have HS := Lib.hid hs
  have l0 := front_200 s
  clear hG hs
  go_enter Tryd.func22, Tryd.ntmps22
  go_wp2_with fail
  refine (tshown_any HG.out.glob).mono ?_
  rintro e w1 ⟨rfl, hb1⟩
  have HB1 := Lib.hid hb1
  clear hb1
  go_wp2_with fail
  refine (tcut_any s HS.out _).mono ?_
  rintro e w' ⟨rfl, rfl⟩
  obtain ⟨f, hf⟩ : ∃ x, front s 200 = x := ⟨_, rfl⟩
  rw [hf] at l0 ⊢
  clear hf HS HG
  have l1 : (f.size : Int) ≤ 200 := by omega
  by_cases hbad : n < 0 ∨ (f.size : Int) ≤ n ∨ m < 0 ∨ 255 < m
  · have he1 := fun w => equal_any f f (by omega) (by omega) w
    rw [decide_eq_true (rfl : f = f)] at he1
    have z1 : (f ++ ⟨#[0]⟩ : ByteArray).size = f.size + 1 := by rw [ByteArray.size_append]; rfl
    have z2 : ((⟨#[0]⟩ : ByteArray) ++ f).size = 1 + f.size := by rw [ByteArray.size_append]; rfl
    have he2 := fun w => equal_any f (f ++ ⟨#[0]⟩) (by omega) (by omega) w
    rw [text_longer f _ (by omega)] at he2
    have he3 := fun w => equal_any (⟨#[0]⟩ ++ f) f (by omega) (by omega) w
    rw [text_longer _ f (by omega)] at he3
    have H1 := Lib.hid he1
    have H2 := Lib.hid he2
    have H3 := Lib.hid he3
    clear he1 he2 he3 z1 z2
    have hcases : n < 0 ∨ (0 ≤ n ∧ (f.size : Int) ≤ n) ∨ (0 ≤ n ∧ n < (f.size : Int) ∧ m < 0) ∨ (0 ≤ n ∧ n < (f.size : Int) ∧ 0 ≤ m ∧ 255 < m) := by omega
    clear hbad
    rcases hcases with h | ⟨h, h2⟩ | ⟨h, h2, h3⟩ | ⟨h, h2, h3, h4⟩
    all_goals
      go_wp2_with fail
      refine (H1.out _).mono ?_
      rintro e w2 ⟨rfl, hb⟩
      have HB2 := Lib.hid (HB1.out.trans (hb.mono HB1.out.size))
      clear hb
      go_wp2_with fail
      refine (H2.out _).mono ?_
      rintro e w3 ⟨rfl, hb⟩
      have HB3 := Lib.hid (HB2.out.trans (hb.mono HB2.out.size))
      clear hb
      go_wp2_with fail
      refine (H3.out _).mono ?_
      rintro e w4 ⟨rfl, hb⟩
      have HB4 := Lib.hid (HB3.out.trans (hb.mono HB3.out.size))
      clear hb
      go_wp2_with fail
      go_ret
      exact ⟨rfl, HB4.out⟩
  · obtain ⟨k, rfl⟩ : ∃ k : Nat, n = (k : Int) := ⟨n.toNat, by omega⟩
    obtain ⟨c, rfl⟩ : ∃ c : Nat, m = (c : Int) := ⟨m.toNat, by omega⟩
    have hk : k < f.size := by omega
    have hc : c < 256 := by omega
    clear hbad
    have i1 : (k : Int) < (f.size : Int) := by omega
    have i2 : (c : Int) ≤ 255 := by omega
    have hcw : (c : Int) % 256 = (c : Int) := by omega
    have q1 : ∀ W, (Instr.slice 9 (.string f) none (some (.int .i64 (k : Int))) none).run Tryd.prog W = .ok (.string (f.extract 0 k)) W := fun W => run_slice_string_h (P := Tryd.prog) W 9 f Tryd.underlying9 .i64 (k : Int) (by omega) (by omega)
    have q2 : ∀ W, (Instr.slice 9 (.string f) (some (.int .i64 ((k : Int) + 1))) none none).run Tryd.prog W = .ok (.string (f.extract (k + 1) f.size)) W := fun W => by
      have h := run_slice_string_l (P := Tryd.prog) W 9 f Tryd.underlying9 .i64 ((k : Int) + 1) (by omega) (by omega)
      rw [show ((k : Int) + 1).toNat = k + 1 by omega] at h
      exact h
    have qx := fun W => index_at f (k : Int) k rfl hk W
    have hcv : ∀ W : World, (convert 40 9 (.slice (some ⟨W.heap.size, 0, none⟩) 1 1)).run Tryd.prog (W.alloc (.cells #[.int .u8 (c : Int)] 5)).drew = .ok (.string ⟨#[UInt8.ofNat c]⟩) (W.alloc (.cells #[.int .u8 (c : Int)] 5)).drew := fun W =>
      conv_one (UInt8.ofNat c) _ _ _ (by rw [UInt8.toNat_ofNat', Nat.mod_eq_of_lt (show c < 2 ^ 8 from hc)]) (alloc_heap W _)
    have hR := with_byte f k c hk hc
    have hzs : (f.extract 0 k ++ ⟨#[UInt8.ofNat c]⟩ ++ f.extract (k + 1) f.size).size ≤ 1000000 := by
      rw [ByteArray.size_append, ByteArray.size_append, ByteArray.size_extract, ByteArray.size_extract]
      have : (⟨#[UInt8.ofNat c]⟩ : ByteArray).size = 1 := rfl
      omega
    have he1 := fun w => equal_same f _ (by omega) hzs w
    have he2 := fun w => equal_same _ f hzs (by omega) w
    rw [decide_symm, hR] at he2
    rw [hR] at he1
    have p1 := extract_size f k (Nat.le_of_lt hk)
    have p2 : (f.extract (k + 1) f.size).size ≤ 200 := by rw [ByteArray.size_extract]; omega
    have p3 : (⟨#[UInt8.ofNat c]⟩ : ByteArray).size = 1 := rfl
    clear hR hzs
    generalize f.extract 0 k = p at q1 he1 he2 p1
    generalize f.extract (k + 1) f.size = q at q2 he1 he2 p2
    generalize (⟨#[UInt8.ofNat c]⟩ : ByteArray) = z at hcv he1 he2 p3
    have p4 : (p ++ z).size = p.size + z.size := ByteArray.size_append
    have p5 : p.size + z.size ≤ 9223372036854775807 := by omega
    have p6 : (p ++ z).size + q.size ≤ 9223372036854775807 := by omega
    have P4 := Lib.hid p4
    clear p4 p3 p2 p1
    obtain ⟨x, hx⟩ : ∃ x, byteAt f k = x := ⟨_, rfl⟩
    rw [hx] at qx he1 he2
    clear hx hc
    by_cases hxc : x = c
    · subst hxc
      rw [decide_eq_true (rfl : x = x)] at he1 he2
      have H1 := Lib.hid he1
      have H2 := Lib.hid he2
      clear he1 he2
      go_wp2_with fail
      go_region
      have HBX : Hid (Below w.heap.size w (w1.alloc (.cells #[.int .u8 (x : Int)] 5)).drew) := Lib.hid ((HB1.out.alloc HB1.out.size _).drew)
      clear q1 q2 hcv p5 p6
      generalize p ++ z ++ q = t at H1 H2 ⊢
      have HE : Hid (∀ a b : ByteArray, ((a = f ∧ b = t) ∨ (a = t ∧ b = f)) → ∀ W, Calls Tryd.prog 59 #[.string a, .string b] W fun e w' => e = .returned (.bool true) ∧ w' = W) := Lib.hid (by rintro a b (⟨rfl, rfl⟩ | ⟨rfl, rfl⟩) W; exact H1.out W; exact H2.out W)
      go_upto_region 6 with fail
      go_quiet (first | (go_at_call 59; refine (HE.out _ _ (by first | exact .inl ⟨rfl, rfl⟩ | exact .inr ⟨rfl, rfl⟩) _).mono ?_; rintro e w5 ⟨rfl, rfl⟩; exact ⟨rfl, _, rfl⟩))
      go_wp2_with fail
      go_ret
      exact ⟨rfl, below_draws HBX.out _⟩
    · rw [decide_eq_false hxc] at he1 he2
      have hne : ¬ ((x : Int) = (c : Int)) := by omega
      have hb1 : ((x : Int) == (c : Int)) = false := by rw [beq_eq_false_iff_ne]; exact hne
      have hb2 : (x == c) = false := by rw [beq_eq_false_iff_ne]; exact hxc
      have hb3 : decide ((x : Int) = (c : Int)) = false := decide_eq_false hne
      have H1 := Lib.hid he1
      have H2 := Lib.hid he2
      clear he1 he2
      go_wp2_with fail
      go_region
      have HBX : Hid (Below w.heap.size w (w1.alloc (.cells #[.int .u8 (c : Int)] 5)).drew) := Lib.hid ((HB1.out.alloc HB1.out.size _).drew)
      clear q1 q2 hcv p5 p6
      generalize p ++ z ++ q = t at H1 H2 ⊢
      have HE : Hid (∀ a b : ByteArray, ((a = f ∧ b = t) ∨ (a = t ∧ b = f)) → ∀ W, Calls Tryd.prog 59 #[.string a, .string b] W fun e w' => e = .returned (.bool false) ∧ w' = W) := Lib.hid (by rintro a b (⟨rfl, rfl⟩ | ⟨rfl, rfl⟩) W; exact H1.out W; exact H2.out W)
      go_upto_region 6 with fail
      go_quiet (first | (go_at_call 59; refine (HE.out _ _ (by first | exact .inl ⟨rfl, rfl⟩ | exact .inr ⟨rfl, rfl⟩) _).mono ?_; rintro e w5 ⟨rfl, rfl⟩; exact ⟨rfl, _, rfl⟩))
      go_wp2_with fail
      go_ret
      exact ⟨rfl, below_draws HBX.out _⟩
end Go.Proofs.YtfafidholldjlaaDoor
/- The law TagJoins. -/
set_option linter.unusedVariables false
set_option linter.unusedSimpArgs false
namespace Go.Proofs.YtfafidholldjlaaDoor
open Go.RowKit
theorem hexText_append (f g : ByteArray) : hexText (f ++ g) (f ++ g).size = hexText f f.size ++ hexText g g.size := by
  rw [hexText_all, hexText_all, hexText_all]
  apply ByteArray.ext
  apply Array.toList_inj.1
  simp [ByteArray.data_append, hexOf_append]
theorem byte_mid (p q : ByteArray) (k c : Nat) (hp : p.size = k) (hc : c < 256) : byteAt (p ++ ⟨#[UInt8.ofNat c]⟩ ++ q) k = c := by
  have hpl : p.data.toList.length = k := hp
  unfold byteAt
  rw [List.getD_eq_getElem?_getD, ByteArray.data_append, ByteArray.data_append, Array.toList_append, Array.toList_append, List.append_assoc, List.getElem?_append_right (by omega), hpl, Nat.sub_self, List.getElem?_append_left (by simp)]
  show (UInt8.ofNat c).toNat = c
  rw [UInt8.toNat_ofNat']
  exact Nat.mod_eq_of_lt hc
theorem great_none : ∀ a : Fin 16, 97 ≤ (dig a.val).toNat → valI ((dig a.val).toNat - 32) = -1 := by decide
theorem hex_byte (f : ByteArray) (k : Nat) (hk : k < (hexText f f.size).size) : ∃ a, a < 16 ∧ byteAt (hexText f f.size) k = (dig a).toNat := by
  rw [hexText_all] at hk ⊢
  have hk' : k < (hexOf f.data.toList).length := hk
  have hm := List.getElem_mem hk'
  obtain ⟨a, ha, e⟩ := hexOf_mem _ _ hm
  refine ⟨a, ha, ?_⟩
  unfold byteAt
  rw [List.getD_eq_getElem?_getD, List.getElem?_eq_getElem hk', ← e]
  rfl
set_option maxRecDepth 100000 in
set_option maxHeartbeats 1000000 in
theorem tjoins_law (s t : ByteArray) (n : Int) (hs : s.size ≤ maxLen) (ht : t.size ≤ maxLen) {B : Nat} {aw ab : Addr} {w : World} (hG : DGlob B aw ab w) :
    Calls Tryd.prog 21 #[.string s, .string t, .int .i64 n] w fun e w' => e = .returned (.bool true) ∧ Below w.heap.size w w' := by
  have HG := Lib.hid hG
  have HS := Lib.hid hs
  have HT := Lib.hid ht
  have l0 := front_200 s
  have l1 := front_200 t
  clear hG hs ht
  go_enter Tryd.func21, Tryd.ntmps21
  go_wp2_with fail
  refine (tshown_any HG.out.glob).mono ?_
  rintro e w1 ⟨rfl, hb1⟩
  have HB1 := Lib.hid hb1
  clear hb1
  go_wp2_with fail
  refine (tcut_any s HS.out _).mono ?_
  rintro e w' ⟨rfl, rfl⟩
  obtain ⟨f, hf⟩ : ∃ x, front s 200 = x := ⟨_, rfl⟩
  rw [hf] at l0 ⊢
  clear hf HS HG
  go_wp2_with fail
  refine (tcut_any t HT.out _).mono ?_
  rintro e w' ⟨rfl, rfl⟩
  obtain ⟨g, hg⟩ : ∃ x, front t 200 = x := ⟨_, rfl⟩
  rw [hg] at l1 ⊢
  clear hg HT
  have z0 : (f ++ g).size = f.size + g.size := ByteArray.size_append
  have hx := fun w => hex_any f (by omega) w
  have hy := fun w => hex_any g (by omega) w
  have hz := fun w => hex_any (f ++ g) (by omega) w
  have hap := hexText_append f g
  have hcs := hexText_size (f ++ g) _ (Nat.le_refl _)
  have hbyte := hex_byte (f ++ g)
  have xs := hexText_size f _ (Nat.le_refl _)
  have ys := hexText_size g _ (Nat.le_refl _)
  obtain ⟨C, hC⟩ : ∃ C, hexText (f ++ g) (f ++ g).size = C := ⟨_, rfl⟩
  rw [hC] at hz hap hcs hbyte
  generalize hexText f f.size = X at hx hap xs
  generalize hexText g g.size = Y at hy hap ys
  have HX := Lib.hid hx
  have HY := Lib.hid hy
  have HZ := Lib.hid hz
  have HBY := Lib.hid hbyte
  have hap' : X ++ Y = C := hap.symm
  have c1 : f.size + g.size ≤ 9223372036854775807 := by omega
  have c2 : X.size + Y.size ≤ 9223372036854775807 := by omega
  have c3 : (C.size : Int) ≤ 1000 := by omega
  have HAP := Lib.hid hap'
  have Z0 := Lib.hid z0
  have HCS := Lib.hid hcs
  clear hx hy hz hC hap hap' z0 hcs xs ys hbyte
  go_wp2_with fail
  refine (HX.out _).mono ?_
  rintro e w2 ⟨rfl, hb⟩
  have HB2 := Lib.hid (HB1.out.trans (hb.mono HB1.out.size))
  clear hb
  go_wp2_with fail
  refine (HY.out _).mono ?_
  rintro e w3 ⟨rfl, hb⟩
  have HB3 := Lib.hid (HB2.out.trans (hb.mono HB2.out.size))
  clear hb
  go_wp2_with fail
  refine (HZ.out _).mono ?_
  rintro e w4 ⟨rfl, hb⟩
  have HB4 := Lib.hid (HB3.out.trans (hb.mono HB3.out.size))
  clear hb
  have hap := HAP.out
  by_cases h1 : n < 0
  · go_wp2_with fail
    go_ret
    exact ⟨rfl, HB4.out⟩
  · by_cases h2 : (C.size : Int) ≤ n
    · have h1' : 0 ≤ n := by omega
      go_wp2_with fail
      go_ret
      exact ⟨rfl, HB4.out⟩
    · obtain ⟨k, rfl⟩ : ∃ k : Nat, n = (k : Int) := ⟨n.toNat, by omega⟩
      have hk : k < C.size := by omega
      have i1 : (k : Int) < (C.size : Int) := by omega
      have qx := fun W => index_at C (k : Int) k rfl hk W
      obtain ⟨a, ha, hxa⟩ := HBY.out k hk
      obtain ⟨x, hx⟩ : ∃ x, byteAt C k = x := ⟨_, rfl⟩
      rw [hx] at qx hxa
      clear hx h1 h2
      by_cases h3 : (x : Int) < 97
      · clear hxa
        go_wp2_with fail
        go_ret
        exact ⟨rfl, HB4.out⟩
      · have h97 : 97 ≤ (x : Int) := by omega
        have hgn := great_none ⟨a, ha⟩ (by rw [← hxa]; omega)
        simp only at hgn
        rw [← hxa] at hgn
        have hx256 : x < 256 := by rw [hxa]; exact UInt8.toNat_lt _
        obtain ⟨d, hd⟩ : ∃ d, x - 32 = d := ⟨_, rfl⟩
        rw [hd] at hgn
        have hd2 : d < 256 := by omega
        have w1' : IntKind.u8.wrap ((x : Int) - 32) = (d : Int) := by rw [IntKind.wrap_u8]; omega
        have w2' : ((x : Int) - 32) % 256 = (d : Int) := by omega
        have q1 : ∀ W, (Instr.slice 9 (.string C) none (some (.int .i64 (k : Int))) none).run Tryd.prog W = .ok (.string (C.extract 0 k)) W := fun W => run_slice_string_h (P := Tryd.prog) W 9 C Tryd.underlying9 .i64 (k : Int) (by omega) (by omega)
        have q2 : ∀ W, (Instr.slice 9 (.string C) (some (.int .i64 ((k : Int) + 1))) none none).run Tryd.prog W = .ok (.string (C.extract (k + 1) C.size)) W := fun W => by
          have h := run_slice_string_l (P := Tryd.prog) W 9 C Tryd.underlying9 .i64 ((k : Int) + 1) (by omega) (by omega)
          rw [show ((k : Int) + 1).toNat = k + 1 by omega] at h
          exact h
        have hcv : ∀ W : World, (convert 40 9 (.slice (some ⟨W.heap.size, 0, none⟩) 1 1)).run Tryd.prog (W.alloc (.cells #[.int .u8 (d : Int)] 5)).drew = .ok (.string ⟨#[UInt8.ofNat d]⟩) (W.alloc (.cells #[.int .u8 (d : Int)] 5)).drew := fun W =>
          conv_one (UInt8.ofNat d) _ _ _ (by rw [UInt8.toNat_ofNat', Nat.mod_eq_of_lt (show d < 2 ^ 8 from hd2)]) (alloc_heap W _)
        have p1 := extract_size C k (Nat.le_of_lt hk)
        have p2 : (C.extract (k + 1) C.size).size ≤ 1000 := by rw [ByteArray.size_extract]; omega
        have hmid := byte_mid (C.extract 0 k) (C.extract (k + 1) C.size) k d p1 hd2
        have p3 : (⟨#[UInt8.ofNat d]⟩ : ByteArray).size = 1 := rfl
        generalize C.extract 0 k = p at q1 p1 hmid
        generalize C.extract (k + 1) C.size = q at q2 p2 hmid
        generalize (⟨#[UInt8.ofNat d]⟩ : ByteArray) = z at hcv p3 hmid
        have p4 : (p ++ z).size = p.size + z.size := ByteArray.size_append
        have p5 : p.size + z.size ≤ 9223372036854775807 := by omega
        have p6 : (p ++ z).size + q.size ≤ 9223372036854775807 := by omega
        have hwk : IntKind.i64.wrap ((k : Int) + 1) = (k : Int) + 1 := IntWalk.i64_in _ (by omega)
        have i3 : (k : Int) + 1 ≤ (C.size : Int) := by omega
        have i4 : (0 : Int) ≤ (k : Int) + 1 := by omega
        have p8 : p.size + z.size + q.size ≤ 9223372036854775807 := by omega
        have p9 : ¬ 9223372036854775807 < p.size + z.size + q.size := by omega
        have p10 : ¬ 9223372036854775807 < (p ++ z).size + q.size := by omega
        have p7 : (p ++ z ++ q).size = p.size + z.size + q.size := by rw [ByteArray.size_append, p4]
        have hno : ¬ hexOK (p ++ z ++ q) := fun h => by
          have := h.2 k (by omega)
          rw [hmid, hgn] at this
          omega
        have hbad := fun W => unhex_bad (p ++ z ++ q) (by omega) hno W
        have HBAD := Lib.hid hbad
        clear hbad hno p7 p4 p3 p2 p1 hmid hgn hxa hd hd2 hx256
        go_wp2_with fail
        go_region_with (go_at_call 55; refine (HBAD.out _).mono ?_; rintro e w5 ⟨rfl, hb5⟩; have HB5 := Lib.hid hb5; clear hb5)
        clear q1 q2 hcv
        all_goals
          go_wp2_with fail
          go_ret
          exact ⟨rfl, ((HB4.out.alloc HB4.out.size _).drew).trans (HB5.out.mono (Nat.le_trans HB4.out.size (by simp)))⟩
end Go.Proofs.YtfafidholldjlaaDoor
namespace Go.Proofs.YtfafidholldjlaaDoor.tagJoins
open Go.ChangeShapes Go.WideShapes Go.ChangeAt Go.RowKit
set_option maxRecDepth 100000 in
set_option maxHeartbeats 1000000 in
theorem contract (H : Type) (enc : TypeId × Value → H) (W : World) (base : Nat) (args : Array Value) (ds gs : List (DataW H)) (before : List MemPlace)
    (hval : ∀ (j : Nat) t v, Tryd.f21.params[j]? = some t → args[j]? = some v → Value.okWide Tryd.prog W .any base t v)
    (hW : DataW.Whole enc Tryd.prog Tryd.f21.params.toList Rows.tagJoinsSpec.vars false W args.toList ds gs before) (hL : laidMetH Tryd.prog Rows.tagJoinsRow.laid W) (hS : W.ShapedOpen Tryd.prog) :
    Calls Tryd.prog 21 args W fun e W' => ∃ v, e = .returned v ∧ Rows.tagJoinsSpec.post enc Tryd.prog Tryd.f21 false true false false W args v W' := by
  have hW' := hW
  obtain ⟨p, q, hA0, hV, rfl, hfz, hnd⟩ := hW
  have hA : DataW.TrodAll enc Tryd.prog W 0 (fun _ => true) true Tryd.f21.params.toList args.toList ds p := hA0
  rw [Tryd.params21] at hA hval
  obtain ⟨v0, vs0, d0, ds0, p0, q0, hargs, rfl, rfl, h0, r0⟩ := trodAll_cons hA
  obtain ⟨v1, vs1, d1, ds1, p1, q1, rfl, rfl, rfl, h1, r1⟩ := trodAll_cons r0
  obtain ⟨v2, vs2, d2, ds2, p2, q2, rfl, rfl, rfl, h2, r2⟩ := trodAll_cons r1
  obtain ⟨rfl, rfl, rfl⟩ := trodAll_nil r2
  obtain rfl : args = #[v0, v1, v2] := by cases args; simp_all
  obtain ⟨rfl, rfl⟩ := trodVars_none hV
  obtain ⟨b0, rfl, rfl, rfl, hw0⟩ := Go.ChangeMaps.open_string Tryd.underlying9 (hval 0 9 v0 rfl rfl) h0
  obtain ⟨b1, rfl, rfl, rfl, hw1⟩ := Go.ChangeMaps.open_string Tryd.underlying9 (hval 1 9 v1 rfl rfl) h1
  obtain ⟨n2, rfl, rfl, rfl, hw2⟩ := open_int Tryd.underlying3 (hval 2 3 v2 rfl rfl) h2
  clear hA0
  simp only [List.append_nil] at hW'
  obtain ⟨aw, ab, hG⟩ := dglob_of hS hL
  have walk := tjoins_law b0 b1 n2 hw0 hw1  hG
  refine walk.mono fun e W' ⟨he, hb⟩ => ?_
  subst he
  exact ⟨_, rfl, post_plain hW' (fun _ _ _ => trodAll_cons_mk (shut_bool Tryd.underlying4 _) trodAll_mk0) (fun _ => (trodAll_cons_mk (Go.ChangeMaps.shut_string Tryd.underlying9 hw0) (trodAll_cons_mk (Go.ChangeMaps.shut_string Tryd.underlying9 hw1) (trodAll_cons_mk (shut_int Tryd.underlying3 hw2) trodAll_mk0)))) (fun _ => rfl) hb (ok_one (by kernel_rfl) rfl (okWide_bool_mk Tryd.underlying4 _))⟩
theorem reads (os : Os) {H : Type} (enc : TypeId × Value → H) : ∃ places, DataW.whole enc Tryd.prog ((laidWorldE os).forCall (fun _ _ => 0) ⟨#[], #[.string ⟨#[]⟩, .string ⟨#[]⟩, .int .i64 0], []⟩).memory Tryd.f21.params.toList Rows.tagJoinsSpec.vars false (#[.string ⟨#[]⟩, .string ⟨#[]⟩, .int .i64 0] : Array Value).toList 8 = some ([.lit (.string []), .lit (.string []), .lit (.int .i64 0)], [], places) :=
  ⟨[], by kernel_rfl⟩
set_option maxRecDepth 100000 in
theorem lifted (os : Os) (started : os.Started) (H : Type) (enc : TypeId × Value → H) (F : Stop.Interp) :
    ReturnsInHanded {} Tryd.checked os 21 .any ((OpenSpec.ofChange Rows.tagJoinsSpec).preRow enc Tryd.prog Tryd.f21 Rows.tagJoinsRow.domain false Rows.tagJoinsRow.laid) (((OpenSpec.ofChange Rows.tagJoinsSpec).at F).post enc Tryd.prog Tryd.f21 false true false false) := by
  obtain ⟨places, hx⟩ := reads os enc
  refine returnsInHanded_of_row (C := Tryd.checked) (s := OpenSpec.ofChange Rows.tagJoinsSpec) own started (by kernel_rfl) Tryd.func21
    (witness_row_atRef (enc := enc) (C := Tryd.checked) false (laidWorldE os) #[.string ⟨#[]⟩, .string ⟨#[]⟩, .int .i64 0] rfl (by kernel_rfl) (by kernel_rfl) (by kernel_rfl)
      (OpenSpec.preRow_of_cond 8 hx (by kernel_rfl) (fun k hk => by cases hk) (by kernel_rfl) (laid_met_two os _))) ?_
  intro W base args ds gs before hval hW _ _ _ hL hS _
  exact contract H enc W base args ds gs before hval hW hL hS
theorem facts : joinedFacts Tryd.prog 21 Tryd.f21 Rows.tagJoinsSpec Rows.tagJoinsRow = true := by
  unfold joinedFacts
  rw [may, lifts, make_cut]
  kernel_rfl
set_option maxRecDepth 100000 in
theorem said : Rows.TagJoinsSaid :=
  OpenClaim.holds_of_cond 21 Tryd.f21 rfl rfl rfl rfl rfl rfl rfl ⟨rfl, rfl, rfl, rfl, rfl⟩ rfl rfl rfl rfl rfl (by kernel_rfl) Tryd.func21 facts
    (of_decide_eq_true (by kernel_rfl)) (by unfold Func.isWrapper; first | (rw [if_pos (by decide +kernel)]; kernel_rfl) | (rw [if_neg (by decide +kernel)]; exact ⟨rfl, rfl⟩))
    (fun os started H enc _ F => by rw [OpenClaim.pre_eq_preRow]; exact lifted os started H enc F)
theorem plain (f : FuncId) (fn : Func) (hf : Tryd.pinned.checked.prog.funcNamed "sigillary/sigillarylaw03.TagJoins" = some f) (hfn : Tryd.pinned.checked.prog.funcs[f]? = some fn) :
    true = Tryd.pinned.checked.prog.looks [] ∧ ∀ (j : Nat) t, fn.params[j]? = some t → Tryd.pinned.checked.prog.wantsStandIn t = false := by
  obtain rfl : f = 21 := Option.some.inj ((show Tryd.prog.funcNamed "sigillary/sigillarylaw03.TagJoins" = some 21 by kernel_rfl).symm.trans hf) |>.symm
  obtain rfl : fn = Tryd.f21 := (Option.some.inj (Tryd.func21.symm.trans hfn)).symm
  refine ⟨by kernel_rfl, fun j t ht => ?_⟩
  rw [Tryd.params21] at ht
  have hm : t = 9 ∨ t = 3 := by
    have := Array.mem_of_getElem? ht
    simpa using this
  rcases hm with rfl | rfl
  · exact (show Tryd.prog.wantsStandIn 9 = false by kernel_rfl)
  · exact (show Tryd.prog.wantsStandIn 3 = false by kernel_rfl)
/-- ████ THE CARD ████ -/
theorem card : Rows.TagJoinsCardSaid :=
  Claim7.holds_tied_plain_at .later [] _ _ _ _ said (fun _ h => by cases h) (by kernel_rfl) (fun _ h => by cases h) tagJoins_row_tie rfl ⟨rfl, rfl⟩ main_is rfl plain (by kernel_rfl)
end Go.Proofs.YtfafidholldjlaaDoor.tagJoins
