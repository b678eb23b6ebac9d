/- Proved: TagTells answers true for every input, never panics, and its input reads as it did; the one condition: the listed variables hold what the program's own text lays in them. -/
import Derived.Test.YtfafidholldjlaaDoorZP
import Derived.Test.YtfafidholldjlaaDoorZN
import Derived.Test.YtfafidholldjlaaDoorZC
/- The law TagKeys. -/
set_option linter.unusedVariables false
set_option linter.unusedSimpArgs false
namespace Go.Proofs.YtfafidholldjlaaDoor
open Go.RowKit
theorem hmac_long (k s : List UInt8) (h : 64 < k.length) : Sha.hmac (Sha.digestOf k) s = Sha.hmac k s := by
  have e1 : Sha.keyOf (Sha.digestOf k) = Sha.digestOf k := by
    unfold Sha.keyOf
    rw [Sha.digestOf_length, if_neg (by decide)]
  have e2 : Sha.keyOf k = Sha.digestOf k := by
    unfold Sha.keyOf
    rw [if_pos h]
  unfold Sha.hmac
  rw [e1, e2]
theorem hmac_short (k s : List UInt8) (m : Nat) (h : k.length + m ≤ 64) : Sha.hmac (k ++ List.replicate m 0) s = Sha.hmac k s := by
  have hl : (k ++ List.replicate m (0 : UInt8)).length = k.length + m := by simp
  have e1 : Sha.keyOf (k ++ List.replicate m 0) = k ++ List.replicate m 0 := by
    unfold Sha.keyOf
    rw [hl, if_neg (by omega)]
  have e2 : Sha.keyOf k = k := by
    unfold Sha.keyOf
    rw [if_neg (by omega)]
  have e3 : Sha.padded (k ++ List.replicate m 0) = Sha.padded k := by
    unfold Sha.padded
    rw [hl, List.append_assoc, List.replicate_append_replicate]
    congr 2
    omega
  unfold Sha.hmac Sha.inOf Sha.mixed
  rw [e1, e2, e3]
def tagText (k s : ByteArray) : ByteArray := ⟨(Sha.hmac k.data.toList s.data.toList).toArray⟩
theorem tag_sum (k s : ByteArray) (h : 64 < k.size) : tagText (shaBytes k.data.toList) s = tagText k s := by
  unfold tagText
  have h' : 64 < k.data.toList.length := h
  show (⟨(Sha.hmac (Sha.digestOf k.data.toList) s.data.toList).toArray⟩ : ByteArray) = _
  rw [hmac_long _ _ h']
theorem tag_zero (k s : ByteArray) (m : Nat) (h : k.size + m ≤ 64) : tagText (k ++ zeroText m) s = tagText k s := by
  unfold tagText
  have h' : k.data.toList.length + m ≤ 64 := h
  have e : (k ++ zeroText m).data.toList = k.data.toList ++ List.replicate m 0 := by
    rw [ByteArray.data_append, Array.toList_append]
    simp [zeroText]
  rw [e, hmac_short _ _ m h']
set_option maxRecDepth 100000 in
set_option maxHeartbeats 1000000 in
theorem tkeys_law (k s : ByteArray) (n : Int) (hk : k.size ≤ maxLen) (hs : s.size ≤ maxLen) {B : Nat} {aw ab : Addr} {w : World} (hG : DGlob B aw ab w) :
    Calls Tryd.prog 17 #[.string k, .string s, .int .i64 n] w fun e w' => e = .returned (.bool true) ∧ Below w.heap.size w w' := by
  have HG := Lib.hid hG
  have HK := Lib.hid hk
  have HS := Lib.hid hs
  have l0 := front_200 k
  have l1 := front_200 s
  clear hG hk hs
  go_enter Tryd.func17, Tryd.ntmps17
  go_wp2_with fail
  refine (tshown_any HG.out.glob).mono ?_
  rintro e w1 ⟨rfl, hb1⟩
  have HB1 := Lib.hid hb1
  clear hb1
  go_wp2_with fail
  refine (tcut_any k HK.out _).mono ?_
  rintro e w' ⟨rfl, rfl⟩
  obtain ⟨f, hf⟩ : ∃ x, front k 200 = x := ⟨_, rfl⟩
  rw [hf] at l0 ⊢
  clear hf HK
  go_wp2_with fail
  refine (tcut_any s HS.out _).mono ?_
  rintro e w' ⟨rfl, rfl⟩
  obtain ⟨g, hg⟩ : ∃ x, front s 200 = x := ⟨_, rfl⟩
  rw [hg] at l1 ⊢
  clear hg HS
  have ht : ∀ W, Glob B aw ab W → ∀ x : ByteArray, x.size ≤ 1000 → Calls Tryd.prog 53 #[.string x, .string g] W fun e w' => e = .returned (.tuple #[.string (tagText x g), .int .i64 0]) ∧ Below W.heap.size W w' := fun W hW x hx => tag_ok hW x g (by omega) (by omega)
  have HT := Lib.hid ht
  clear ht
  have lf : (f.size : Int) ≤ 200 := by omega
  go_wp2_with fail
  refine (HT.out _ (HG.out.glob.below (HB1.out.mono HG.out.glob.size)) f (by omega)).mono ?_
  rintro e w2 ⟨rfl, hb⟩
  have HB2 := Lib.hid (HB1.out.trans (hb.mono HB1.out.size))
  clear hb
  by_cases h64 : (64 : Int) < (f.size : Int)
  · have hx := tag_sum f g (by omega)
    have hz : (shaBytes f.data.toList).size = 32 := shaBytes_size _
    have hd := dsum_ok (HG.out.glob.below (HB2.out.mono HG.out.glob.size)) f (by omega)
    generalize shaBytes f.data.toList = q at hx hz hd
    obtain ⟨t, htt⟩ : ∃ t, tagText f g = t := ⟨_, rfl⟩
    rw [htt] at hx ⊢
    have HX := Lib.hid hx
    have HD := Lib.hid hd
    clear hx hd htt
    go_wp2_with fail
    refine HD.out.mono ?_
    rintro e w3 ⟨rfl, hb⟩
    have HB3 := Lib.hid (HB2.out.trans (hb.mono HB2.out.size))
    clear hb
    go_wp2_with fail
    refine (HT.out _ (HG.out.glob.below (HB3.out.mono HG.out.glob.size)) q (by omega)).mono ?_
    rw [HX.out]
    rintro e w4 ⟨rfl, hb⟩
    have HB4 := Lib.hid (HB3.out.trans (hb.mono HB3.out.size))
    clear hb
    go_wp2_with fail
    go_ret
    exact ⟨rfl, HB4.out⟩
  · have hcase : (n < 0 ∧ ∃ m : Nat, m = 0 ∧ f.size + m ≤ 64) ∨ (0 ≤ n ∧ n ≤ 64 - (f.size : Int)) ∨ (0 ≤ n ∧ 64 - (f.size : Int) < n) := by
      by_cases h1 : n < 0
      · exact .inl ⟨h1, 0, rfl, by omega⟩
      · by_cases h2 : n ≤ 64 - (f.size : Int)
        · exact .inr (.inl ⟨by omega, h2⟩)
        · exact .inr (.inr ⟨by omega, by omega⟩)
    have fin : ∀ m : Nat, f.size + m ≤ 64 → Hid ((∀ W, (Instr.makeSlice 40 (.int .i64 (m : Int)) (.int .i64 (m : Int))).run Tryd.prog W = .ok (.slice (some ⟨W.heap.size, 0, none⟩) m m) (W.alloc (.cells (List.replicate m (Value.int .u8 0)).toArray 5))) ∧
        (∀ W : World, (convert 40 9 (.slice (some ⟨W.heap.size, 0, none⟩) m m)).run Tryd.prog (W.alloc (.cells (List.replicate m (Value.int .u8 0)).toArray 5)) = .ok (.string (zeroText m)) (W.alloc (.cells (List.replicate m (Value.int .u8 0)).toArray 5))) ∧ tagText (f ++ zeroText m) g = tagText f g ∧ (zeroText m).size = m) := fun m hm =>
      Lib.hid ⟨make_bytes m (by omega) (m : Int) rfl, fun W => conv_zero m _ _ (alloc_heap _ _), tag_zero f g m hm, zeroText_size m⟩
    have hsub : IntKind.i64.wrap (64 - (f.size : Int)) = 64 - (f.size : Int) := IntWalk.i64_in _ (by omega)
    obtain ⟨m, hm, hmi⟩ : ∃ m : Nat, f.size + m ≤ 64 ∧ (m : Int) = min (max n 0) (64 - (f.size : Int)) := ⟨(min (max n 0) (64 - (f.size : Int))).toNat, by omega, by omega⟩
    obtain ⟨m1, v1, x1, z1⟩ := (fin m hm).out
    clear fin
    generalize (List.replicate m (Value.int .u8 0)).toArray = M at m1 v1
    generalize zeroText m = z at v1 x1 z1
    obtain ⟨t, htt⟩ : ∃ t, tagText f g = t := ⟨_, rfl⟩
    rw [htt] at x1 ⊢
    have HX := Lib.hid x1
    have HF := Lib.hid htt
    have zs : (f ++ z).size = f.size + z.size := ByteArray.size_append
    have zb : f.size + z.size ≤ 9223372036854775807 := by omega
    have hzs : (f ++ z).size ≤ 1000 := by omega
    have HZS := Lib.hid hzs
    clear x1 htt zs hzs z1
    rcases hcase with ⟨h1, _⟩ | ⟨h1, h2⟩ | ⟨h1, h2⟩
    case' inl => have em : (m : Int) = 0 := by omega
    case' inr.inl => have em : (m : Int) = n := by omega
    case' inr.inr => have em : (m : Int) = 64 - (f.size : Int) := by omega
    all_goals
      rw [em] at m1
      clear em hmi
      go_wp2_with fail
      refine (HT.out _ (HG.out.glob.below (((HB2.out.alloc HB2.out.size _)).mono HG.out.glob.size)) (f ++ z) HZS.out).mono ?_
      rw [HX.out]
      rintro e w4 ⟨rfl, hb⟩
      have HB4 := Lib.hid ((HB2.out.alloc HB2.out.size _).trans (hb.mono (Nat.le_trans HB2.out.size (by simp))))
      clear hb
      go_wp2_with fail
      go_ret
      exact ⟨rfl, HB4.out⟩
end Go.Proofs.YtfafidholldjlaaDoor
/- The law TagParts. -/
set_option linter.unusedVariables false
set_option linter.unusedSimpArgs false
namespace Go.Proofs.YtfafidholldjlaaDoor
open Go.RowKit
/-- A key's first bytes, each mixed with another one. -/
def mt (f : ByteArray) (c : UInt8) (t : Nat) : ByteArray := ⟨((List.range t).map fun i => UInt8.ofNat (byteAt f i) ^^^ c).toArray⟩
theorem mt_size (f : ByteArray) (c : UInt8) (t : Nat) : (mt f c t).size = t := by
  show ((List.range t).map fun i => UInt8.ofNat (byteAt f i) ^^^ c).toArray.size = t
  simp
theorem mt_succ (f : ByteArray) (c : UInt8) (t : Nat) : mt f c t ++ ⟨#[UInt8.ofNat (byteAt f t) ^^^ c]⟩ = mt f c (t + 1) := by
  apply ByteArray.ext
  apply Array.toList_inj.1
  simp [mt, ByteArray.data_append, List.range_succ]
theorem mt_all (f : ByteArray) (c : UInt8) (h : f.size ≤ 64) : (mt f c 64).data.toList = Sha.mixed f.data.toList c := by
  have hl : f.data.toList.length ≤ 64 := h
  show ((List.range 64).map fun i => UInt8.ofNat (byteAt f i) ^^^ c).toArray.toList = _
  apply List.ext_getElem
  · rw [Sha.mixed_length _ _ hl]; simp
  · intro i h1 h2
    have hi : i < 64 := by simpa using h1
    simp only [Sha.mixed, List.getElem_map, List.getElem_range, Sha.padded]
    congr 1
    by_cases hf : i < f.data.toList.length
    · rw [List.getElem_append_left hf]
      unfold byteAt
      rw [List.getD_eq_getElem?_getD, List.getElem?_eq_getElem hf]
      exact UInt8.ofNat_toNat
    · rw [List.getElem_append_right (by omega), byteAt_past f i (by have : f.data.toList.length = f.size := rfl; omega)]
      simp
theorem tag_parts (f g : ByteArray) (h : f.size ≤ 64) : shaBytes (mt f 92 64 ++ shaBytes (mt f 54 64 ++ g).data.toList).data.toList = tagText f g := by
  have hl : f.data.toList.length ≤ 64 := h
  have e1 : (mt f 54 64 ++ g).data.toList = Sha.mixed f.data.toList 54 ++ g.data.toList := by rw [ByteArray.data_append, Array.toList_append, mt_all f 54 h]
  have e2 : (mt f 92 64 ++ shaBytes (Sha.mixed f.data.toList 54 ++ g.data.toList)).data.toList = Sha.mixed f.data.toList 92 ++ Sha.inOf f.data.toList g.data.toList := by
    rw [ByteArray.data_append, Array.toList_append, mt_all f 92 h]
    rfl
  have e3 : Sha.keyOf f.data.toList = f.data.toList := by
    unfold Sha.keyOf
    rw [if_neg (by omega)]
  rw [e1, e2]
  unfold tagText Sha.hmac
  rw [e3]
  rfl
theorem xor_nat (x : Nat) (hx : x < 256) (c : UInt8) : (UInt8.ofNat x ^^^ c).toNat = x ^^^ c.toNat := by
  rw [UInt8.toNat_xor, UInt8.toNat_ofNat', Nat.mod_eq_of_lt (show x < 2 ^ 8 from hx)]
set_option maxRecDepth 100000 in
set_option maxHeartbeats 2000000 in
theorem tparts_law (k s : ByteArray) (hk : k.size ≤ maxLen) (hs : s.size ≤ maxLen) {B : Nat} {aw ab : Addr} {w : World} (hG : DGlob B aw ab w) :
    Calls Tryd.prog 20 #[.string k, .string s] w fun e w' => e = .returned (.bool true) ∧ Below w.heap.size w w' := by
  have HG := Lib.hid hG
  have HS := Lib.hid hs
  have l1 := front_200 s
  have k0 : (k.size : Int) ≤ 9223372036854775807 := by unfold maxLen at hk; omega
  clear hG hs hk
  go_enter Tryd.func20, Tryd.ntmps20
  go_wp2_with fail
  refine (tshown_any HG.out.glob).mono ?_
  rintro e w1 ⟨rfl, hb1⟩
  have HB1 := Lib.hid hb1
  clear hb1
  by_cases h64 : (64 : Int) < (k.size : Int)
  case' pos =>
    have e : k.extract 0 64 = front k 64 := by
      apply ByteArray.ext
      apply Array.toList_inj.1
      simp [front]
    have E := Lib.hid e
    have hfs : (front k 64).size = 64 := front_size k 64 (by omega)
    clear e
    go_wp2_with fail
    refine (tcut_any s HS.out _).mono ?_
    rintro e w' ⟨rfl, rfl⟩
    rw [E.out]
    obtain ⟨f, hf⟩ : ∃ f, front k 64 = f := ⟨_, rfl⟩
    rw [hf] at hfs ⊢
    have hfl : f.size ≤ 64 := by omega
    clear hf E hfs
  case' neg =>
    have h2 : (k.size : Int) ≤ 64 := by omega
    go_wp2_with fail
    refine (tcut_any s HS.out _).mono ?_
    rintro e w' ⟨rfl, rfl⟩
    obtain ⟨f, rfl⟩ : ∃ f, f = k := ⟨_, rfl⟩
    have hfl : f.size ≤ 64 := by omega
  all_goals
    obtain ⟨g, hg⟩ : ∃ x, front s 200 = x := ⟨_, rfl⟩
    rw [hg] at l1 ⊢
    have lf : (f.size : Int) ≤ 64 := by omega
    clear hg HS h64
    go_wp2_with fail
    go_loopw [6, 7, 8] (fun a b i W => ∃ t : Nat, t ≤ 64 ∧ a = .string (mt f 54 t) ∧ b = .string (mt f 92 t) ∧ i = .int .i64 t ∧ Below w.heap.size w W) (fun _ _ i _ => 64 - (intOf i).toNat)
    case atStart => exact ⟨0, by omega, rfl, rfl, rfl, HB1.out⟩
    case round =>
      obtain ⟨t, ht, rfl, rfl, rfl, hbl⟩ := hrel
      have HBL := Lib.hid hbl
      clear hbl
      by_cases hlt : t < 64
      · have hx256 := byteAt_lt f t
        have s1 := mt_succ f 54 t
        have s2 := mt_succ f 92 t
        have z1 := mt_size f 54 t
        have z2 := mt_size f 92 t
        have hpast := fun h => byteAt_past f t h
        have hix := fun (h : t < f.size) W => index_at f (t : Int) t rfl h W
        obtain ⟨x, hx⟩ : ∃ x, byteAt f t = x := ⟨_, rfl⟩
        rw [hx] at hx256 s1 s2 hpast
        simp only [hx] at hix
        have n1 := xor_nat x hx256 54
        have n2 := xor_nat x hx256 92
        have x1 : bits .xor .u8 (x : Int) 54 = ((UInt8.ofNat x ^^^ 54).toNat : Int) := by rw [n1]; exact u8_xor_byte x 54 hx256 (by decide)
        have x2 : bits .xor .u8 (x : Int) 92 = ((UInt8.ofNat x ^^^ 92).toNat : Int) := by rw [n2]; exact u8_xor_byte x 92 hx256 (by decide)
        clear n1 n2 hx
        have y1 : (⟨#[UInt8.ofNat x ^^^ 54]⟩ : ByteArray).size = 1 := rfl
        have y2 : (⟨#[UInt8.ofNat x ^^^ 92]⟩ : ByteArray).size = 1 := rfl
        obtain ⟨e1, he1⟩ : ∃ e : Int, ((UInt8.ofNat x ^^^ 54).toNat : Int) = e := ⟨_, rfl⟩
        obtain ⟨e2, he2⟩ : ∃ e : Int, ((UInt8.ofNat x ^^^ 92).toNat : Int) = e := ⟨_, rfl⟩
        have v1 := fun W : World => conv_one (UInt8.ofNat x ^^^ 54) (W.alloc (.cells #[.int .u8 e1] 5)) W.heap.size e1 he1.symm (alloc_heap _ _)
        have v2 := fun W : World => conv_one (UInt8.ofNat x ^^^ 92) ((W.alloc (.cells #[.int .u8 e1] 5)).alloc (.cells #[.int .u8 e2] 5)) (W.heap.size + 1) e2 he2.symm (alloc_heap_at _ _ _ (by rw [World.size_alloc]))
        rw [he1] at x1
        rw [he2] at x2
        have S1 := Lib.hid s1
        have S2 := Lib.hid s2
        clear he1 he2 s1 s2
        generalize (⟨#[UInt8.ofNat x ^^^ 54]⟩ : ByteArray) = q1 at v1 y1 S1
        generalize (⟨#[UInt8.ofNat x ^^^ 92]⟩ : ByteArray) = q2 at v2 y2 S2
        generalize mt f 54 t = m1 at z1 S1 ⊢
        generalize mt f 92 t = m2 at z2 S2 ⊢
        have c1 : m1.size + q1.size ≤ 9223372036854775807 := by omega
        have c2 : m2.size + q2.size ≤ 9223372036854775807 := by omega
        have Y1 := Lib.hid y1
        have Y2 := Lib.hid y2
        have Z1 := Lib.hid z1
        have Z2 := Lib.hid z2
        have i64' : (t : Int) < 64 := by omega
        clear y1 y2 z1 z2 hx256
        by_cases hin : t < f.size
        · have hq := hix hin
          have i0 : (t : Int) < (f.size : Int) := by omega
          clear hix hpast
          go_wp2_with fail
          go_roundw
          case rel => exact ⟨t + 1, by omega, by rw [← S1.out], by rw [← S2.out], by go_num, (HBL.out.alloc HBL.out.size _).alloc (Nat.le_trans HBL.out.size (by simp)) _⟩
          case measure => simp [intOf]; omega
        · have i0 : ¬ ((t : Int) < (f.size : Int)) := by omega
          have hz := hpast (by omega)
          subst hz
          rw [show (((0 : Nat) : Int)) = (0 : Int) from rfl] at x1 x2
          clear hix hpast
          go_wp2_with fail
          go_roundw
          case rel => exact ⟨t + 1, by omega, by rw [← S1.out], by rw [← S2.out], by go_num, (HBL.out.alloc HBL.out.size _).alloc (Nat.le_trans HBL.out.size (by simp)) _⟩
          case measure => simp [intOf]; omega
      · obtain rfl : t = 64 := by omega
        have z1 := mt_size f 54 64
        have z2 := mt_size f 92 64
        have hp := tag_parts f g hfl
        have hd1 := fun W (hW : Glob B aw ab W) => dsum_ok hW (mt f 54 64 ++ g) (by rw [ByteArray.size_append]; omega)
        have hzi : (shaBytes (mt f 54 64 ++ g).data.toList).size = 32 := shaBytes_size _
        have hd2 := fun W (hW : Glob B aw ab W) => dsum_ok hW (mt f 92 64 ++ shaBytes (mt f 54 64 ++ g).data.toList) (by rw [ByteArray.size_append]; omega)
        have ht : ∀ W, Glob B aw ab W → Calls Tryd.prog 53 #[.string f, .string g] W fun e w' => e = .returned (.tuple #[.string (tagText f g), .int .i64 0]) ∧ Below W.heap.size W w' := fun W hW => tag_ok hW f g (by omega) (by omega)
        rw [hp] at hd2
        generalize tagText f g = tg at ht hd2
        generalize shaBytes (mt f 54 64 ++ g).data.toList = q at hd1 hd2 hzi
        generalize mt f 54 64 = m1 at z1 hd1 ⊢
        generalize mt f 92 64 = m2 at z2 hd2 ⊢
        have c1 : m1.size + g.size ≤ 9223372036854775807 := by omega
        have c2 : m2.size + q.size ≤ 9223372036854775807 := by omega
        have c3 : 64 + g.size ≤ 9223372036854775807 := by omega
        have c4 : 64 + q.size ≤ 9223372036854775807 := by omega
        have HD1 := Lib.hid hd1
        have HD2 := Lib.hid hd2
        have HT := Lib.hid ht
        have HGB : Hid (∀ W, Below w.heap.size w W → Glob B aw ab W) := Lib.hid (fun W hb => HG.out.glob.below (hb.mono HG.out.glob.size))
        clear hd1 hd2 ht hp hzi z1 z2
        go_wp2_with fail
        refine (HD1.out _ (HGB.out _ HBL.out)).mono ?_
        rintro e w3 ⟨rfl, hb⟩
        have HB3 := Lib.hid (HBL.out.trans (hb.mono HBL.out.size))
        clear hb
        go_wp2_with fail
        refine (HD2.out _ (HGB.out _ HB3.out)).mono ?_
        rintro e w4 ⟨rfl, hb⟩
        have HB4 := Lib.hid (HB3.out.trans (hb.mono HB3.out.size))
        clear hb
        go_wp2_with fail
        refine (HT.out _ (HGB.out _ HB4.out)).mono ?_
        rintro e w5 ⟨rfl, hb⟩
        have HB5 := Lib.hid (HB4.out.trans (hb.mono HB4.out.size))
        clear hb
        go_wp2_with fail
        go_ret
        exact ⟨rfl, HB5.out⟩
end Go.Proofs.YtfafidholldjlaaDoor
/- The document's key, mixed. -/
set_option linter.unusedVariables false
set_option linter.unusedSimpArgs false
namespace Go.Proofs.YtfafidholldjlaaDoor
open Go.RowKit
set_option maxRecDepth 100000 in
set_option maxHeartbeats 1000000 in
theorem refMixed_any (f : ByteArray) (hf : f.size ≤ 1000) (c : UInt8) (w : World) : Calls Tryd.prog 78 #[.string f, .int .i64 (c.toNat : Int)] w fun e w' => e = .returned (.string (mt f c 64)) ∧ Below w.heap.size w w' := by
  have lf : (f.size : Int) ≤ 1000 := by omega
  have hc256 := UInt8.toNat_lt c
  obtain ⟨cn, hcn⟩ : ∃ n, c.toNat = n := ⟨_, rfl⟩
  rw [hcn] at hc256 ⊢
  have HCN := Lib.hid hcn
  clear hcn
  go_enter Tryd.func78, Tryd.ntmps78
  go_wp2_with fail
  go_loopw [5, 6] (fun a i W => ∃ t : Nat, t ≤ 64 ∧ a = .string (mt f c t) ∧ i = .int .i64 t ∧ Below w.heap.size w W) (fun _ i _ => 64 - (intOf i).toNat)
  case atStart => exact ⟨0, by omega, rfl, rfl, Below.refl _ _⟩
  case round =>
    obtain ⟨t, ht, rfl, rfl, hbl⟩ := hrel
    have HBL := Lib.hid hbl
    clear hbl
    by_cases hlt : t < 64
    · have hx256 := byteAt_lt f t
      have s1 := mt_succ f c t
      have z1 := mt_size f c t
      have hpast := fun h => byteAt_past f t h
      have hix := fun (h : t < f.size) W => index_at f (t : Int) t rfl h W
      obtain ⟨x, hx⟩ : ∃ x, byteAt f t = x := ⟨_, rfl⟩
      rw [hx] at hx256 s1 hpast
      simp only [hx] at hix
      have n1 := xor_nat x hx256 c
      rw [HCN.out] at n1
      have x1 := i64_xor_word x cn (by omega) (by omega)
      have xb : x ^^^ cn < 256 := Nat.xor_lt_two_pow (n := 8) hx256 hc256
      clear hx
      have y1 : (⟨#[UInt8.ofNat x ^^^ c]⟩ : ByteArray).size = 1 := rfl
      obtain ⟨e1, he1⟩ : ∃ e : Nat, x ^^^ cn = e := ⟨_, rfl⟩
      rw [he1] at n1 x1 xb
      have v1 := fun W : World => conv_one (UInt8.ofNat x ^^^ c) (W.alloc (.cells #[.int .u8 (e1 : Int)] 5)) W.heap.size (e1 : Int) (by rw [n1]) (alloc_heap _ _)
      have hm1 : (e1 : Int) % 256 = (e1 : Int) := by omega
      have hm2 : IntKind.u8.wrap (e1 : Int) = (e1 : Int) := by rw [IntKind.wrap_u8]; omega
      have S1 := Lib.hid s1
      clear he1 s1 n1
      generalize (⟨#[UInt8.ofNat x ^^^ c]⟩ : ByteArray) = q1 at v1 y1 S1
      generalize mt f c t = m1 at z1 S1 ⊢
      have c1 : m1.size + q1.size ≤ 9223372036854775807 := by omega
      have i64' : (t : Int) < 64 := by omega
      have b0 : (x : Int) < 256 := by omega
      have b1 : (0 : Int) ≤ (x : Int) := by omega
      clear y1 z1 xb
      by_cases hin : t < f.size
      · have hq := hix hin
        have i0 : (t : Int) < (f.size : Int) := by omega
        clear hix hpast
        go_wp2_with fail
        go_roundw
        case rel => exact ⟨t + 1, by omega, by rw [← S1.out], by go_num, HBL.out.alloc HBL.out.size _⟩
        case measure => simp [intOf]; omega
      · have i0 : ¬ ((t : Int) < (f.size : Int)) := by omega
        have hz := hpast (by omega)
        subst hz
        rw [show (((0 : Nat) : Int)) = (0 : Int) from rfl] at x1
        clear hix hpast
        go_wp2_with fail
        go_roundw
        case rel => exact ⟨t + 1, by omega, by rw [← S1.out], by go_num, HBL.out.alloc HBL.out.size _⟩
        case measure => simp [intOf]; omega
    · obtain rfl : t = 64 := by omega
      obtain ⟨m1, hm⟩ : ∃ m, mt f c 64 = m := ⟨_, rfl⟩
      rw [hm]
      have HM := Lib.hid hm
      clear hm
      go_wp2_with fail
      go_ret
      exact ⟨by rw [HM.out]; rfl, HBL.out⟩
set_option maxRecDepth 100000 in
theorem refOf_any {w : World} (hK : RefK w) (h1 : 1 < w.heap.size) (k s : ByteArray) (hk : k.size ≤ 200) (hs : s.size ≤ 200) :
    Calls Tryd.prog 54 #[.string k, .string s] w fun e w' => e = .returned (.tuple #[.string (tagText k s), .int .i64 0]) ∧ Below w.heap.size w w' := by
  have HK : Hid (∀ W, Below w.heap.size w W → RefK W ∧ 1 < W.heap.size) := Lib.hid (fun W hb => ⟨hK.below h1 h1 hb, Nat.lt_of_lt_of_le h1 hb.size⟩)
  have hm1 := fun (f : ByteArray) (hf : f.size ≤ 1000) W => refMixed_any f hf 54 W
  have hm2 := fun (f : ByteArray) (hf : f.size ≤ 1000) W => refMixed_any f hf 92 W
  have HM1 := Lib.hid hm1
  have HM2 := Lib.hid hm2
  have i0 : (k.size : Int) ≤ 200 := by omega
  have i1 : (s.size : Int) ≤ 200 := by omega
  obtain ⟨tg, htg⟩ : ∃ x, tagText k s = x := ⟨_, rfl⟩
  rw [htg]
  have HTG := Lib.hid htg
  clear hK hm1 hm2 htg
  have HB0 : Hid (Below w.heap.size w w) := Lib.hid (Below.refl _ _)
  by_cases h64 : (64 : Int) < (k.size : Int)
  case' pos =>
    have hsum := fun W (hb : Below w.heap.size w W) => refSum_ok (HK.out W hb).1 (HK.out W hb).2 k (by omega)
    have hqs : (shaBytes k.data.toList).size = 32 := shaBytes_size _
    have hts := tag_sum k s (by omega)
    obtain ⟨f, hf⟩ : ∃ f, shaBytes k.data.toList = f := ⟨_, rfl⟩
    rw [hf] at hsum hqs hts
    have hfl : f.size ≤ 64 := by omega
    have hp := tag_parts f s hfl
    rw [hts, HTG.out] at hp
    have HSUM := Lib.hid hsum
    have HP := Lib.hid hp
    clear hsum hts hf hp hqs
    go_enter Tryd.func54, Tryd.ntmps54
    go_wp2_with fail
    refine (HSUM.out _ HB0.out).mono ?_
    rintro e w1 ⟨rfl, hb⟩
    have HB1 := Lib.hid hb
    clear hb
  case' neg =>
    have hfl : k.size ≤ 64 := by omega
    obtain ⟨f, rfl⟩ : ∃ f, f = k := ⟨_, rfl⟩
    have hp := tag_parts f s hfl
    rw [HTG.out] at hp
    have HP := Lib.hid hp
    clear hp
    have h64' : (f.size : Int) ≤ 64 := by omega
    go_enter Tryd.func54, Tryd.ntmps54
    have HB1 := HB0
  all_goals
    have z1 := mt_size f 54 64
    have z2 := mt_size f 92 64
    have hs1 : ∀ W, Below w.heap.size w W → Calls Tryd.prog 41 #[.string (mt f 54 64 ++ s)] W fun e w' => e = .returned (.tuple #[.string (shaBytes (mt f 54 64 ++ s).data.toList), .int .i64 0]) ∧ Below W.heap.size W w' := fun W hb => refSum_ok (HK.out W hb).1 (HK.out W hb).2 _ (by rw [ByteArray.size_append]; omega)
    have hqs : (shaBytes (mt f 54 64 ++ s).data.toList).size = 32 := shaBytes_size _
    have hs2 : ∀ W, Below w.heap.size w W → Calls Tryd.prog 41 #[.string (mt f 92 64 ++ shaBytes (mt f 54 64 ++ s).data.toList)] W fun e w' => e = .returned (.tuple #[.string tg, .int .i64 0]) ∧ Below W.heap.size W w' := fun W hb => by
      have := refSum_ok (HK.out W hb).1 (HK.out W hb).2 (mt f 92 64 ++ shaBytes (mt f 54 64 ++ s).data.toList) (by rw [ByteArray.size_append]; omega)
      rw [HP.out] at this
      exact this
    have hm1 := fun W => HM1.out f (by omega) W
    have hm2 := fun W => HM2.out f (by omega) W
    clear HP HTG HM1 HM2
    generalize shaBytes (mt f 54 64 ++ s).data.toList = q at hs1 hs2 hqs
    generalize mt f 54 64 = m1 at z1 hs1 hm1
    generalize mt f 92 64 = m2 at z2 hs2 hm2
    have c1 : m1.size + s.size ≤ 9223372036854775807 := by omega
    have c2 : m2.size + q.size ≤ 9223372036854775807 := by omega
    have HS1 := Lib.hid hs1
    have HS2 := Lib.hid hs2
    have HX1 := Lib.hid hm1
    have HX2 := Lib.hid hm2
    clear hs1 hs2 hm1 hm2 z1 z2 hqs
    go_wp2_with fail
    refine (HX1.out _).mono ?_
    rintro e w2 ⟨rfl, hb⟩
    have HB2 := Lib.hid (HB1.out.trans (hb.mono HB1.out.size))
    clear hb
    go_wp2_with fail
    refine (HS1.out _ HB2.out).mono ?_
    rintro e w3 ⟨rfl, hb⟩
    have HB3 := Lib.hid (HB2.out.trans (hb.mono HB2.out.size))
    clear hb
    go_wp2_with fail
    refine (HX2.out _).mono ?_
    rintro e w4 ⟨rfl, hb⟩
    have HB4 := Lib.hid (HB3.out.trans (hb.mono HB3.out.size))
    clear hb
    go_wp2_with fail
    refine (HS2.out _ HB4.out).mono ?_
    rintro e w5 ⟨rfl, hb⟩
    have HB5 := Lib.hid (HB4.out.trans (hb.mono HB4.out.size))
    clear hb
    go_wp2_with fail
    exact bodyPost_ret (v := .tuple #[.string tg, .int .i64 0]) (by simp [results, Tryd.results54, go_sem]) rfl ⟨rfl, HB5.out⟩
end Go.Proofs.YtfafidholldjlaaDoor
/- The law TagTells. -/
set_option linter.unusedVariables false
set_option linter.unusedSimpArgs false
namespace Go.Proofs.YtfafidholldjlaaDoor
open Go.RowKit
theorem text_beq (a b : ByteArray) : (a.toList == b.toList) = decide (a = b) := by
  rw [ByteArray.toList_eq, ByteArray.toList_eq]
  by_cases h : a = b
  · subst h
    rw [decide_eq_true rfl]
    exact beq_self_eq_true _
  · rw [decide_eq_false h, beq_eq_false_iff_ne]
    intro e
    exact h (ByteArray.ext (Array.toList_inj.1 e))
set_option maxRecDepth 100000 in
set_option maxHeartbeats 1000000 in
theorem ttells_law (k s : ByteArray) (hk : k.size ≤ maxLen) (hs : s.size ≤ maxLen) {B : Nat} {aw ab : Addr} {w : World} (hG : DGlob B aw ab w) (hK : RefK w) :
    Calls Tryd.prog 16 #[.string k, .string s] w fun e w' => e = .returned (.bool true) ∧ Below w.heap.size w w' := by
  have h1 : 1 < w.heap.size := by have := hG.four; omega
  have HGB : Hid (∀ W, Below w.heap.size w W → Glob B aw ab W) := Lib.hid (fun W hb => hG.glob.below (hb.mono hG.glob.size))
  have HKB : Hid (∀ W, Below w.heap.size w W → RefK W ∧ 1 < W.heap.size) := Lib.hid (fun W hb => ⟨hK.below h1 h1 hb, Nat.lt_of_lt_of_le h1 hb.size⟩)
  have HK := Lib.hid hk
  have HS := Lib.hid hs
  have l0 := front_200 k
  have l1 := front_200 s
  have HB0 : Hid (Below w.heap.size w w) := Lib.hid (Below.refl _ _)
  clear hG hk hs hK h1
  go_enter Tryd.func16, Tryd.ntmps16
  go_wp2_with fail
  refine (tshown_any (HGB.out _ HB0.out)).mono ?_
  rintro e w1 ⟨rfl, hb1⟩
  have HB1 := Lib.hid hb1
  clear hb1
  go_wp2_with fail
  refine (tcut_any k HK.out _).mono ?_
  rintro e w' ⟨rfl, rfl⟩
  obtain ⟨f, hf⟩ : ∃ x, front k 200 = x := ⟨_, rfl⟩
  rw [hf] at l0 ⊢
  clear hf HK
  go_wp2_with fail
  refine (tcut_any s HS.out _).mono ?_
  rintro e w' ⟨rfl, rfl⟩
  obtain ⟨g, hg⟩ : ∃ x, front s 200 = x := ⟨_, rfl⟩
  rw [hg] at l1 ⊢
  clear hg HS
  have ht : ∀ W, Glob B aw ab W → Calls Tryd.prog 53 #[.string f, .string g] W fun e w' => e = .returned (.tuple #[.string (tagText f g), .int .i64 0]) ∧ Below W.heap.size W w' := fun W hW => tag_ok hW f g (by omega) (by omega)
  have hr : ∀ W, RefK W ∧ 1 < W.heap.size → Calls Tryd.prog 54 #[.string f, .string g] W fun e w' => e = .returned (.tuple #[.string (tagText f g), .int .i64 0]) ∧ Below W.heap.size W w' := fun W hW => refOf_any hW.1 hW.2 f g l0 l1
  generalize tagText f g = tg at ht hr
  have hx := fun W => hex_any f (by omega) W
  have hy := fun W => refHex_any f (by omega) W
  generalize hexText f f.size = X at hx hy
  have hE := fun W => equal_any f g (by omega) (by omega) W
  rw [← text_beq] at hE
  have hu : ∃ r er, (∀ W, Calls Tryd.prog 55 #[.string f] W fun e w' => e = .returned (.tuple #[.string r, .int .i64 er]) ∧ Below W.heap.size W w') ∧ (∀ W, Calls Tryd.prog 56 #[.string f] W fun e w' => e = .returned (.tuple #[.string r, .int .i64 er]) ∧ Below W.heap.size W w') := by
    by_cases hok : hexOK f
    · refine ⟨unhexTo f (f.size / 2), 0, fun W => unhex_good f (by omega) hok W, fun W => (refUnhex_any f (by omega) W).mono ?_⟩
      rintro e w' ⟨⟨r, er, rfl, ⟨_, rfl, rfl⟩ | ⟨h1, _⟩⟩, hb⟩
      · exact ⟨rfl, hb⟩
      · exact absurd hok h1
    · refine ⟨⟨#[]⟩, 30, fun W => unhex_bad f (by omega) hok W, fun W => (refUnhex_any f (by omega) W).mono ?_⟩
      rintro e w' ⟨⟨r, er, rfl, ⟨h1, _⟩ | ⟨_, rfl, rfl⟩⟩, hb⟩
      · exact absurd h1 hok
      · exact ⟨rfl, hb⟩
  obtain ⟨r, er, hu1, hu2⟩ := hu
  obtain ⟨eb, heb⟩ : ∃ b : Bool, (f.toList == g.toList) = b := ⟨_, rfl⟩
  rw [heb] at hE
  have HT := Lib.hid ht
  have HR := Lib.hid hr
  have HX := Lib.hid hx
  have HY := Lib.hid hy
  have HE := Lib.hid hE
  have HU1 := Lib.hid hu1
  have HU2 := Lib.hid hu2
  have HEB := Lib.hid heb
  clear ht hr hx hy hE hu1 hu2 heb
  go_wp2_with fail
  refine (HT.out _ (HGB.out _ HB1.out)).mono ?_
  rintro e w2 ⟨rfl, hb⟩
  have HB2 := Lib.hid (HB1.out.trans (hb.mono HB1.out.size))
  clear hb
  go_wp2_with fail
  refine (HR.out _ (HKB.out _ HB2.out)).mono ?_
  rintro e w3 ⟨rfl, hb⟩
  have HB3 := Lib.hid (HB2.out.trans (hb.mono HB2.out.size))
  clear hb
  go_wp2_with fail
  refine (HU1.out _).mono ?_
  rintro e w4 ⟨rfl, hb⟩
  have HB4 := Lib.hid (HB3.out.trans (hb.mono HB3.out.size))
  clear hb
  go_wp2_with fail
  refine (HU2.out _).mono ?_
  rintro e w5 ⟨rfl, hb⟩
  have HB5 := Lib.hid (HB4.out.trans (hb.mono HB4.out.size))
  clear hb
  go_wp2_with fail
  refine (HX.out _).mono ?_
  rintro e w6 ⟨rfl, hb⟩
  have HB6 := Lib.hid (HB5.out.trans (hb.mono HB5.out.size))
  clear hb
  go_wp2_with fail
  refine (HY.out _).mono ?_
  rintro e w7 ⟨rfl, hb⟩
  have HB7 := Lib.hid (HB6.out.trans (hb.mono HB6.out.size))
  clear hb
  have heb := HEB.out
  go_wp2_with fail
  refine (HE.out _).mono ?_
  rintro e w8 ⟨rfl, hb⟩
  have HB8 := Lib.hid (HB7.out.trans (hb.mono HB7.out.size))
  clear hb
  go_wp2_with fail
  go_ret
  exact ⟨rfl, HB8.out⟩
end Go.Proofs.YtfafidholldjlaaDoor
namespace Go.Proofs.YtfafidholldjlaaDoor.tagTells
open Go.ChangeShapes Go.WideShapes Go.ChangeAt Go.RowKit
set_option maxRecDepth 100000 in
set_option maxHeartbeats 1000000 in
theorem contract (H : Type) (enc : TypeId × Value → H) (W : World) (base : Nat) (args : Array Value) (ds gs : List (DataW H)) (before : List MemPlace)
    (hval : ∀ (j : Nat) t v, Tryd.f16.params[j]? = some t → args[j]? = some v → Value.okWide Tryd.prog W .any base t v)
    (hW : DataW.Whole enc Tryd.prog Tryd.f16.params.toList Rows.tagTellsSpec.vars false W args.toList ds gs before) (hL : laidMetH Tryd.prog Rows.tagTellsRow.laid W) (hS : W.ShapedOpen Tryd.prog) :
    Calls Tryd.prog 16 args W fun e W' => ∃ v, e = .returned v ∧ Rows.tagTellsSpec.post enc Tryd.prog Tryd.f16 false true false false W args v W' := by
  have hW' := hW
  obtain ⟨p, q, hA0, hV, rfl, hfz, hnd⟩ := hW
  have hA : DataW.TrodAll enc Tryd.prog W 0 (fun _ => true) true Tryd.f16.params.toList args.toList ds p := hA0
  rw [Tryd.params16] at hA hval
  obtain ⟨v0, vs0, d0, ds0, p0, q0, hargs, rfl, rfl, h0, r0⟩ := trodAll_cons hA
  obtain ⟨v1, vs1, d1, ds1, p1, q1, rfl, rfl, rfl, h1, r1⟩ := trodAll_cons r0
  obtain ⟨rfl, rfl, rfl⟩ := trodAll_nil r1
  obtain rfl : args = #[v0, v1] := by cases args; simp_all
  obtain ⟨rfl, rfl⟩ := trodVars_none hV
  obtain ⟨b0, rfl, rfl, rfl, hw0⟩ := Go.ChangeMaps.open_string Tryd.underlying9 (hval 0 9 v0 rfl rfl) h0
  obtain ⟨b1, rfl, rfl, rfl, hw1⟩ := Go.ChangeMaps.open_string Tryd.underlying9 (hval 1 9 v1 rfl rfl) h1
  clear hA0
  simp only [List.append_nil] at hW'
  obtain ⟨aw, ab, hG, hK⟩ := dglobk_of hS hL
  have walk := ttells_law b0 b1 hw0 hw1 hG hK
  refine walk.mono fun e W' ⟨he, hb⟩ => ?_
  subst he
  exact ⟨_, rfl, post_plain hW' (fun _ _ _ => trodAll_cons_mk (shut_bool Tryd.underlying4 _) trodAll_mk0) (fun _ => (trodAll_cons_mk (Go.ChangeMaps.shut_string Tryd.underlying9 hw0) (trodAll_cons_mk (Go.ChangeMaps.shut_string Tryd.underlying9 hw1) trodAll_mk0))) (fun _ => rfl) hb (ok_one (by kernel_rfl) rfl (okWide_bool_mk Tryd.underlying4 _))⟩
theorem reads (os : Os) {H : Type} (enc : TypeId × Value → H) : ∃ places, DataW.whole enc Tryd.prog ((laidWorldE os).forCall (fun _ _ => 0) ⟨#[], #[.string ⟨#[]⟩, .string ⟨#[]⟩], []⟩).memory Tryd.f16.params.toList Rows.tagTellsSpec.vars false (#[.string ⟨#[]⟩, .string ⟨#[]⟩] : Array Value).toList 8 = some ([.lit (.string []), .lit (.string [])], [], places) :=
  ⟨[], by kernel_rfl⟩
set_option maxRecDepth 100000 in
theorem lifted (os : Os) (started : os.Started) (H : Type) (enc : TypeId × Value → H) (F : Stop.Interp) :
    ReturnsInHanded {} Tryd.checked os 16 .any ((OpenSpec.ofChange Rows.tagTellsSpec).preRow enc Tryd.prog Tryd.f16 Rows.tagTellsRow.domain false Rows.tagTellsRow.laid) (((OpenSpec.ofChange Rows.tagTellsSpec).at F).post enc Tryd.prog Tryd.f16 false true false false) := by
  obtain ⟨places, hx⟩ := reads os enc
  refine returnsInHanded_of_row (C := Tryd.checked) (s := OpenSpec.ofChange Rows.tagTellsSpec) own started (by kernel_rfl) Tryd.func16
    (witness_row_atRef (enc := enc) (C := Tryd.checked) false (laidWorldE os) #[.string ⟨#[]⟩, .string ⟨#[]⟩] rfl (by kernel_rfl) (by kernel_rfl) (by kernel_rfl)
      (OpenSpec.preRow_of_cond 8 hx (by kernel_rfl) (fun k hk => by cases hk) (by kernel_rfl) (laid_met_tells os _))) ?_
  intro W base args ds gs before hval hW _ _ _ hL hS _
  exact contract H enc W base args ds gs before hval hW hL hS
theorem facts : joinedFacts Tryd.prog 16 Tryd.f16 Rows.tagTellsSpec Rows.tagTellsRow = true := by
  unfold joinedFacts
  rw [may, lifts, make_cut]
  kernel_rfl
set_option maxRecDepth 100000 in
theorem said : Rows.TagTellsSaid :=
  OpenClaim.holds_of_cond 16 Tryd.f16 rfl rfl rfl rfl rfl rfl rfl ⟨rfl, rfl, rfl, rfl, rfl⟩ rfl rfl rfl rfl rfl (by kernel_rfl) Tryd.func16 facts
    (of_decide_eq_true (by kernel_rfl)) (by unfold Func.isWrapper; first | (rw [if_pos (by decide +kernel)]; kernel_rfl) | (rw [if_neg (by decide +kernel)]; exact ⟨rfl, rfl⟩))
    (fun os started H enc _ F => by rw [OpenClaim.pre_eq_preRow]; exact lifted os started H enc F)
theorem plain (f : FuncId) (fn : Func) (hf : Tryd.pinned.checked.prog.funcNamed "sigillary/sigillarylaw03.TagTells" = some f) (hfn : Tryd.pinned.checked.prog.funcs[f]? = some fn) :
    true = Tryd.pinned.checked.prog.looks [] ∧ ∀ (j : Nat) t, fn.params[j]? = some t → Tryd.pinned.checked.prog.wantsStandIn t = false := by
  obtain rfl : f = 16 := Option.some.inj ((show Tryd.prog.funcNamed "sigillary/sigillarylaw03.TagTells" = some 16 by kernel_rfl).symm.trans hf) |>.symm
  obtain rfl : fn = Tryd.f16 := (Option.some.inj (Tryd.func16.symm.trans hfn)).symm
  refine ⟨by kernel_rfl, fun j t ht => ?_⟩
  rw [Tryd.params16] at ht
  have hm : t = 9 := by
    have := Array.mem_of_getElem? ht
    simpa using this
  obtain rfl := hm
  · exact (show Tryd.prog.wantsStandIn 9 = false by kernel_rfl)
/-- ████ THE CARD ████ -/
theorem card : Rows.TagTellsCardSaid :=
  Claim7.holds_tied_plain_at .later [] _ _ _ _ said (fun _ h => by cases h) (by kernel_rfl) (fun _ h => by cases h) tagTells_row_tie rfl ⟨rfl, rfl⟩ main_is rfl plain (by kernel_rfl)
end Go.Proofs.YtfafidholldjlaaDoor.tagTells
