/- The sum behind a key; a text's tag. -/
import Derived.Test.YtfafidholldjlaaDoorZR
import Derived.Deep.MidRow
import Derived.Great.BuildSlice
import Derived.Deep.RegionHeld3
set_option linter.unusedVariables false
set_option linter.unusedSimpArgs false
namespace Go.Proofs.YtfafidholldjlaaDoor
open Go.RowKit
theorem join_one (q : ByteArray) (g cap : Nat) (w : World) (hg : w.cell? ⟨g, 0, none⟩ = some (.string q)) : Calls Tryd.prog 89 #[.slice (some ⟨g, 0, none⟩) 1 cap, .string ⟨#[]⟩] w fun e w' => e = .returned (.string q) ∧ w = w' := by
  go_enter Tryd.func89, Tryd.ntmps89
  go_wp2_with fail
  go_ret
  exact ⟨rfl, rfl⟩
theorem sum_method (h : Nat) (W : World) : (Go.method 303 46 (.pointer (some ⟨h, 0, none⟩)) "Sum").run Tryd.prog W = .ok (44, .pointer (some ⟨h, 0, none⟩)) W := by kernel_rfl
theorem sum_asserts (h : Nat) (W : World) : (Instr.typeAssert (.iface 46 (.pointer (some ⟨h, 0, none⟩))) 20 126 false).run Tryd.prog W = .ok (.iface 46 (.pointer (some ⟨h, 0, none⟩))) W := by kernel_rfl
set_option maxRecDepth 100000 in
set_option maxHeartbeats 1000000 in
theorem ksum_any {B : Nat} {aw ab : Addr} {w : World} (hG : Glob B aw ab w) (h : Nat) (hBh : B ≤ h) (m : List UInt8) (hm : HasherAt w h m) (k : List UInt8) (hk : k.length = 64) (c : UInt8) (q : ByteArray) (hq : q.size ≤ 99936) (g : Nat) (hgl : g ≠ h) (hgs : g < w.heap.size) (hg : w.cell? ⟨g, 0, none⟩ = some (.string q)) :
    Calls Tryd.prog 77 #[.agg (Value.pointer (some ⟨h, 0, none⟩) :: byteCells k).toArray, .int .u8 (c.toNat : Int), .slice (some ⟨g, 0, none⟩) 1 1] w fun e w' => e = .returned (.string (shaBytes (k.map (· ^^^ c) ++ q.data.toList))) ∧ HasherAt w' h (k.map (· ^^^ c) ++ q.data.toList) ∧ Far (· = h) w w' := by
  have HG := Lib.hid hG
  have hlh := hm.lt
  obtain ⟨v0, r0, s0⟩ := hm
  have R0 := Lib.hid r0
  have S0 := Lib.hid s0
  clear hG r0 s0
  obtain ⟨Lk, hL⟩ : ∃ L, byteCells k = L := ⟨_, rfl⟩
  have hLs : Lk.length = 64 := by rw [← hL]; simp [byteCells, hk]
  rw [hL]
  obtain ⟨km, hkm⟩ : ∃ x, (⟨(k.map (· ^^^ c)).toArray⟩ : ByteArray) = x := ⟨_, rfl⟩
  have hml : (k.map (· ^^^ c)) = km.data.toList := by rw [← hkm]
  have hks : km.size = 64 := by rw [← hkm]; show (k.map (· ^^^ c)).toArray.size = 64; simp [hk]
  have hmix := kmixed_any k hk c
  rw [hL, hkm] at hmix
  rw [hml]
  have HMX := Lib.hid hmix
  clear hL hkm hml hmix
  obtain ⟨sx, hsx⟩ : ∃ x, shaBytes (km.data.toList ++ q.data.toList) = x := ⟨_, rfl⟩
  rw [hsx]
  have HSX := Lib.hid hsx
  clear hsx
  go_enter Tryd.func77, Tryd.ntmps77
  go_wp2_with fail
  generalize hW1 : w.alloc (.cells (Value.pointer (some ⟨h, 0, none⟩) :: Lk).toArray 100) = w1
  have hf1 : Far (· = h) w w1 := by rw [← hW1]; exact (Far.refl _ _).alloc _
  have hrk : w1.heap[w.heap.size]? = some (.cells (Value.pointer (some ⟨h, 0, none⟩) :: Lk).toArray 100 (0, 0)) := by rw [← hW1]; exact alloc_heap_at _ _ _ rfl
  have hr1 := alloc_heap_old (.cells (Value.pointer (some ⟨h, 0, none⟩) :: Lk).toArray 100) R0.out
  rw [hW1] at hr1
  have HF1 := Lib.hid hf1
  have HRK := Lib.hid hrk
  clear hW1 hf1
  refine (reset_any h v0 _ _ _ hr1).mono ?_
  rintro e w2 ⟨rfl, r2, hf2⟩
  have hrk2 := hf2.heap hrk (show ¬ w.heap.size = h by omega)
  have HF2 := Lib.hid (HF1.out.trans hf2)
  have HM2 := Lib.hid (hasher_new r2)
  have HRK2 := Lib.hid hrk2
  have x0 : w2.cell? ⟨w.heap.size, 0, none⟩ = some (.pointer (some ⟨h, 0, none⟩)) := by
    rw [cell_of hrk2]
    simp
  have xr : w2.rangeAt w.heap.size 1 Lk := by
    intro j v hj
    rw [cell_of hrk2]
    simp
    rw [Nat.add_comm]
    simpa using hj
  have xg : w2.cell? ⟨g, 0, none⟩ = some (.string q) := (HF2.out.cell (p := ⟨g, 0, none⟩) hgs hgl).trans hg
  have hu97 := Tryd.underlying97
  have hi97 : (Tryd.prog.info? 97).map (·.size) = some Lk.length := by rw [size97, hLs]
  have hlw : w.heap.size < w2.heap.size := lt_of_heap hrk2
  have HG2 := Lib.hid (HG.out.below (HF2.out.to_below HG.out.size (by omega)))
  clear r2 hf2 hrk hr1 hrk2 HRK hg
  obtain ⟨X, hX⟩ : ∃ X, w.heap.size = X := ⟨_, rfl⟩
  rw [hX] at x0 xr hlw
  have hxh : X ≠ h := by omega
  have hgX : g < w2.heap.size := by omega
  have l1 : (km.size : Int) ≤ 8388608 := by omega
  have l2 : (q.size : Int) ≤ 8388608 := by omega
  have l3 : km.size + q.size ≤ 9223372036854775807 := by omega
  have l4 : 64 + q.size ≤ 9223372036854775807 := by omega
  go_wp2_with fail
  have hd : ((fun w' => w'.rangeAt X 1 Lk ∧ w'.cell? ⟨X, 0, none⟩ = some (.pointer (some ⟨h, 0, none⟩)) ∧ w'.cell? ⟨g, 0, none⟩ = some (.string q)) : World → Prop) w2.drew := ⟨xr, x0, xg⟩
  refine wp_region_held_drew (S := fun w' => w'.rangeAt X 1 Lk ∧ w'.cell? ⟨X, 0, none⟩ = some (.pointer (some ⟨h, 0, none⟩)) ∧ w'.cell? ⟨g, 0, none⟩ = some (.string q)) (by kernel_rfl) hd (fun hHeld => ?_)
  refine wpAnyH_take (i := 0) (v := .pointer (some ⟨X, 0, none⟩)) rfl (by kernel_rfl) (by kernel_rfl) (by kernel_rfl) (fun _ _ _ h => h) (Or.inl ⟨by rfl, fun w' hw => by go_simp⟩) hHeld ?_
  try simp only [Act.put, List.setIfInBounds_toArray, List.set_cons_zero, List.set_cons_succ]
  refine wpAnyH_take (i := 1) (v := .pointer (some ⟨h, 0, none⟩)) rfl (by kernel_rfl) (by kernel_rfl) (by kernel_rfl) (fun _ _ _ h => h) (Or.inl ⟨by rfl, fun w' hw => by have h1 := hw.2.1; go_simp⟩) hHeld ?_
  try simp only [Act.put, List.setIfInBounds_toArray, List.set_cons_zero, List.set_cons_succ]
  refine wpAnyH_take (i := 2) (v := .pointer (some ⟨X, 1, none⟩)) rfl (by kernel_rfl) (by kernel_rfl) (by kernel_rfl) (fun _ _ _ h => h) (Or.inl ⟨by rfl, fun w' hw => by go_simp⟩) hHeld ?_
  try simp only [Act.put, List.setIfInBounds_toArray, List.set_cons_zero, List.set_cons_succ]
  refine' wpAnyH_take (i := 3) rfl (by kernel_rfl) (by kernel_rfl) (by kernel_rfl) (fun _ _ _ h => h) (yieldsIf_load_mid (by rfl) _ _ rfl X 1 rfl Lk _ (fun w' h => h.1) hu97 rfl hi97) hHeld ?_
  try simp only [Act.put, List.setIfInBounds_toArray, List.set_cons_zero, List.set_cons_succ]
  refine wpAnyH_take (i := 4) (v := .int .u8 (c.toNat : Int)) rfl (by kernel_rfl) (by kernel_rfl) (by kernel_rfl) (fun _ _ _ h => h) (Or.inl ⟨by rfl, fun w' _ => by rfl⟩) hHeld ?_
  try simp only [Act.put, List.setIfInBounds_toArray, List.set_cons_zero, List.set_cons_succ]
  refine wpAnyH_take (i := 6) (v := .slice (some ⟨g, 0, none⟩) 1 1) rfl (by kernel_rfl) (by kernel_rfl) (by kernel_rfl) (fun _ _ _ h => h) (Or.inl ⟨by rfl, fun w' _ => by rfl⟩) hHeld ?_
  try simp only [Act.put, List.setIfInBounds_toArray, List.set_cons_zero, List.set_cons_succ]
  refine wpAnyH_ready (rs := [5]) (by kernel_rfl) (by simp) (AllReadyH.cons rfl (fun K hK => ?_) AllReadyH.nil)
  go_simp
  refine (HMX.out _).mono ?_
  rintro e w3 ⟨rfl, hb3⟩
  have yr : w3.rangeAt X 1 Lk := fun j v hj => (hb3.cell (p := ⟨X, 1 + j, none⟩) hlw).trans (xr j v hj)
  have y0 := (hb3.cell (p := ⟨X, 0, none⟩) hlw).trans x0
  have yg := (hb3.cell (p := ⟨g, 0, none⟩) hgX).trans xg
  have HM3 := Lib.hid (HasherAt.keep (W := w2.drew) HM2.out hb3)
  have HG3 := Lib.hid (HG2.out.below (((Below.refl B w2).drew).trans (hb3.mono HG2.out.size)))
  have HB3 := Lib.hid hb3
  clear hb3
  go_wp2_with fail
  refine hK.out _ _ ⟨yr, y0, yg⟩ (fun hHeld2 => ?_)
  clear hK K hHeld
  try simp only [Act.put, List.setIfInBounds_toArray, List.set_cons_zero, List.set_cons_succ]
  refine wpAnyH_ready (rs := [7]) (by kernel_rfl) (by simp) (AllReadyH.cons rfl (fun K hK => ?_) AllReadyH.nil)
  go_simp
  refine (join_one q g 1 _ yg).mono ?_
  rintro e w' ⟨rfl, rfl⟩
  go_wp2_with fail
  refine hK.out _ _ ⟨yr, y0, yg⟩ (fun hHeld3 => ?_)
  clear hK K
  try simp only [Act.put, List.setIfInBounds_toArray, List.set_cons_zero, List.set_cons_succ]
  refine wpAnyH_ready (rs := [8]) (by kernel_rfl) (by simp) (AllReadyH.cons rfl (fun K hK => ?_) AllReadyH.nil)
  go_simp
  rw [if_neg (by omega)]
  try go_simp
  refine hK.out _ _ ⟨yr, y0, yg⟩ (fun hHeld4 => ?_)
  clear hK K
  try simp only [Act.put, List.setIfInBounds_toArray, List.set_cons_zero, List.set_cons_succ]
  refine wpAnyH_ready (rs := [9]) (by kernel_rfl) (by simp) (AllReadyH.cons rfl (fun K hK => ?_) AllReadyH.nil)
  go_simp
  refine (write_ok HG3.out h hBh _ (km ++ q) HM3.out (by rw [ByteArray.size_append]; simp; omega)).mono ?_
  rintro e w4 ⟨rfl, hm4, hf4⟩
  have hX3 : X < w3.heap.size := Nat.lt_of_lt_of_le hlw HB3.out.size
  have hg3 : g < w3.heap.size := Nat.lt_of_lt_of_le hgX HB3.out.size
  have zr : w4.rangeAt X 1 Lk := fun j v hj => (hf4.cell (p := ⟨X, 1 + j, none⟩) hX3 hxh).trans (yr j v hj)
  have z0 := (hf4.cell (p := ⟨X, 0, none⟩) hX3 hxh).trans y0
  have zg := (hf4.cell (p := ⟨g, 0, none⟩) hg3 hgl).trans yg
  have HM4 := Lib.hid hm4
  have HF4 := Lib.hid hf4
  clear hm4 hf4
  go_wp2_with fail
  refine hK.out _ _ ⟨zr, z0, zg⟩ (fun hHeld5 => ?_)
  clear hK K
  try simp only [Act.put, List.setIfInBounds_toArray, List.set_cons_zero, List.set_cons_succ]
  refine wpAnyH_done (by kernel_rfl) ?_ _
  have HG4 := Lib.hid (HG3.out.below (HF4.out.to_below HG3.out.size (by omega)))
  have hff : Far (· = h) w w4 := (HF2.out.drew.below HB3.out).trans HF4.out
  have HFF := Lib.hid hff
  have ta := sum_asserts h
  have tm := sum_method h
  clear hff zr yr xr x0 y0 xg yg zg hu97 hi97
  go_wp2_with fail
  rw [List.nil_append, append_list] at HM4
  refine (hsum_any HG4.out h hBh _ HM4.out (by rw [List.length_append]; have e1 : km.data.toList.length = km.size := rfl; have e2 : q.data.toList.length = q.size := rfl; omega)).mono ?_
  rintro e w5 ⟨rfl, hm5, hf5⟩
  rw [HSX.out]
  have HM5 := Lib.hid hm5
  have HF5 := Lib.hid (HFF.out.trans hf5)
  clear hm5 hf5
  go_wp2_with fail
  go_ret
  exact ⟨rfl, HM5.out, HF5.out⟩
theorem list_range (l : List Value) (n : Nat) (h : l.length = n) : l = (List.range n).map (fun i => l.getD i undef) := by
  apply List.ext_getElem
  · simp [h]
  · intro i h1 h2
    simp [List.getElem?_eq_getElem h1]
theorem built_range (p : Value) (f : Nat → Value) : Tryd.prog.built 100 [(0, .pointer (some ⟨0, 0, none⟩)), (1, .agg ((List.range 64).map f).toArray)] = some (Value.pointer (some ⟨0, 0, none⟩) :: (List.range 64).map f).toArray := by kernel_rfl
theorem built_key (h : Nat) (l : List Value) (hl : l.length = 64) : Tryd.prog.built 100 [(0, .pointer (some ⟨h, 0, none⟩)), (1, .agg l.toArray)] = some (Value.pointer (some ⟨h, 0, none⟩) :: l).toArray := by
  rw [list_range l 64 hl]
  generalize (fun i => l.getD i undef) = f
  kernel_rfl
theorem size100 : (Tryd.prog.info? 100).map (·.size) = some 65 := by kernel_rfl
theorem zero100 : Tryd.zeroCells100.size = 65 := by kernel_rfl
set_option maxRecDepth 100000 in
set_option maxHeartbeats 1000000 in
theorem tag_ok {B : Nat} {aw ab : Addr} {w : World} (hG : Glob B aw ab w) (k s : ByteArray) (hk : k.size ≤ 100000) (hs : s.size ≤ 99936) :
    Calls Tryd.prog 53 #[.string k, .string s] w fun e w' => e = .returned (.tuple #[.string ⟨(Sha.hmac k.data.toList s.data.toList).toArray⟩, .int .i64 0]) ∧ Below w.heap.size w w' := by
  have HG := Lib.hid hG
  have i0 : (k.size : Int) ≤ 100000 := by omega
  have i1 : (s.size : Int) ≤ 99936 := by omega
  clear hG
  obtain ⟨kk, hkk⟩ : ∃ x, Sha.padded (Sha.keyOf k.data.toList) = x := ⟨_, rfl⟩
  have hkl : kk.length = 64 := by rw [← hkk]; exact Sha.padded_length _ (Sha.keyOf_length _)
  have HKK := Lib.hid hkk
  have hko := fun (W : World) (hW : Glob B aw ab W) => keyof_any hW k hk
  rw [hkk] at hko
  have HKO := Lib.hid hko
  obtain ⟨tg, htg⟩ : ∃ x, (⟨(Sha.hmac k.data.toList s.data.toList).toArray⟩ : ByteArray) = x := ⟨_, rfl⟩
  rw [htg]
  have HTG := Lib.hid htg
  clear hkk hko htg
  go_enter Tryd.func53, Tryd.ntmps53
  go_wp2_with fail
  refine (new_any _).mono ?_
  rintro e w1 ⟨h, rfl, hh, hr, hb1⟩
  have HN := Lib.hid (hasher_new hr)
  have HB1 := Lib.hid hb1
  clear hr hb1
  go_wp2_with fail
  refine (HKO.out _ (HG.out.below (HB1.out.mono HG.out.size))).mono ?_
  rintro e w2 ⟨rfl, hb2⟩
  have HM2 := Lib.hid (HN.out.keep hb2)
  have HB2 := Lib.hid (HB1.out.trans (hb2.mono HB1.out.size))
  clear hb2 HN
  obtain ⟨Lk, hLk⟩ : ∃ x, byteCells kk = x := ⟨_, rfl⟩
  rw [hLk]
  have HLK := Lib.hid hLk
  clear hLk
  have hLl : Lk.length = 64 := by rw [← HLK.out]; simp [byteCells, hkl]
  have hbk := built_key h Lk hLl
  have hpl : (Value.pointer (some ⟨h, 0, none⟩) :: Lk).toArray.size = 65 := by simp [hLl]
  have hone : (Value.pointer (some ⟨h, 0, none⟩) :: Lk).toArray.all (·.oneCell') = true := by
    rw [← HLK.out]
    simp [byteCells, Value.oneCell']
  have HBK := Lib.hid hbk
  have HPL := Lib.hid hpl
  have HONE := Lib.hid hone
  have HA := Lib.hid (alloc_heap_at w2 (.cells Tryd.zeroCells100 100) _ rfl)
  clear hbk hpl hone hLl
  go_wp2_with (first
    | (refine wpList_buildTo rfl 100 _ rfl _ rfl (Value.pointer (some ⟨h, 0, none⟩) :: Lk).toArray (by simpa [Act.eval] using HBK.out) ?_)
    | (refine wpList_store_row rfl 100 _ _ rfl w2.heap.size (Value.pointer (some ⟨h, 0, none⟩) :: Lk).toArray rfl rfl 100 _ HA.out (by rw [HPL.out]; exact size100) (by rw [HPL.out]; exact zero100) HONE.out ?_))
  obtain ⟨inn, hinn⟩ : ∃ x, shaBytes (kk.map (· ^^^ 54) ++ s.data.toList) = x := ⟨_, rfl⟩
  have hout : shaBytes (kk.map (· ^^^ 92) ++ inn.data.toList) = tg := by rw [← HTG.out, ← hinn, ← HKK.out]; rfl
  have his : inn.size = 32 := by rw [← hinn]; exact shaBytes_size _
  have hBh : B ≤ h := Nat.le_trans HG.out.size hh
  have k54 : ∀ (W : World) (g : Nat), Glob B aw ab W → (∃ m, HasherAt W h m) → g ≠ h → g < W.heap.size → W.cell? ⟨g, 0, none⟩ = some (.string s) → Calls Tryd.prog 77 #[.agg (Value.pointer (some ⟨h, 0, none⟩) :: Lk).toArray, .int .u8 54, .slice (some ⟨g, 0, none⟩) 1 1] W fun e w' => e = .returned (.string inn) ∧ (∃ m, HasherAt w' h m) ∧ Far (· = h) W w' := by
    rintro W g hW ⟨m, hm⟩ h1 h2 h3
    have hx := ksum_any hW h hBh m hm kk hkl 54 s hs g h1 h2 h3
    rw [hinn, HLK.out] at hx
    exact hx.mono (fun e w' ⟨a, b, c⟩ => ⟨a, ⟨_, b⟩, c⟩)
  have k92 : ∀ (W : World) (g : Nat), Glob B aw ab W → (∃ m, HasherAt W h m) → g ≠ h → g < W.heap.size → W.cell? ⟨g, 0, none⟩ = some (.string inn) → Calls Tryd.prog 77 #[.agg (Value.pointer (some ⟨h, 0, none⟩) :: Lk).toArray, .int .u8 92, .slice (some ⟨g, 0, none⟩) 1 1] W fun e w' => e = .returned (.string tg) ∧ (∃ m, HasherAt w' h m) ∧ Far (· = h) W w' := by
    rintro W g hW ⟨m, hm⟩ h1 h2 h3
    have hx := ksum_any hW h hBh m hm kk hkl 92 inn (by omega) g h1 h2 h3
    rw [hout, HLK.out] at hx
    exact hx.mono (fun e w' ⟨a, b, c⟩ => ⟨a, ⟨_, b⟩, c⟩)
  have K54 := Lib.hid k54
  have K92 := Lib.hid k92
  clear hinn hout k54 k92
  have hrow := setRow_heap (w2.alloc (.cells Tryd.zeroCells100 100)) w2.heap.size _ (Value.pointer (some ⟨h, 0, none⟩) :: Lk).toArray 100 (0, 0) HA.out
  have hbw := below_setRow ((Below.refl w2.heap.size w2).alloc (Nat.le_refl _) (.cells Tryd.zeroCells100 100)) w2.heap.size (Nat.le_refl _) (Value.pointer (some ⟨h, 0, none⟩) :: Lk).toArray
  generalize hW3 : (w2.alloc (.cells Tryd.zeroCells100 100)).setRow w2.heap.size (Value.pointer (some ⟨h, 0, none⟩) :: Lk).toArray = w3 at hrow hbw ⊢
  have HM3 := Lib.hid (HM2.out.keep hbw)
  have HB3 := Lib.hid (HB2.out.trans (hbw.mono HB2.out.size))
  have hlt3 := lt_of_heap hrow
  have hhl := HM2.out.lt
  obtain ⟨X, hX⟩ : ∃ X, w2.heap.size = X := ⟨_, rfl⟩
  rw [hX] at hrow hlt3 ⊢
  have xr : w3.rangeAt X 0 (Value.pointer (some ⟨h, 0, none⟩) :: Lk) := by
    intro j v hj
    rw [Nat.zero_add, cell_of hrow]
    simpa using hj
  have hXh : X ≠ h := by omega
  have hu100 := Tryd.underlying100
  have hi100 : (Tryd.prog.info? 100).map (·.size) = some (Value.pointer (some ⟨h, 0, none⟩) :: Lk).length := by rw [size100]; have := HPL.out; simp at this; simp [this]
  clear hbw hW3 hrow
  obtain ⟨Lc, hLc⟩ : ∃ L, (Value.pointer (some ⟨h, 0, none⟩) :: Lk) = L := ⟨_, rfl⟩
  rw [hLc] at xr hi100 K54 K92
  have hd : ((fun w' => w'.rangeAt X 0 Lc) : World → Prop) w3.drew := xr
  refine wp_region_held_drew (S := fun w' => w'.rangeAt X 0 Lc) (by kernel_rfl) hd (fun hHeld => ?_)
  refine' wpAnyH_take (i := 0) rfl (by kernel_rfl) (by kernel_rfl) (by kernel_rfl) (fun _ _ _ h => h) (yieldsIf_load_mid (by rfl) _ _ rfl X 0 rfl Lc _ (fun w' h => h) hu100 rfl hi100) hHeld ?_
  try simp only [Act.put, List.setIfInBounds_toArray, List.set_cons_zero, List.set_cons_succ]
  refine' wpAnyH_take (i := 1) rfl (by kernel_rfl) (by kernel_rfl) (by kernel_rfl) (fun _ _ _ h => h) (yieldsIf_load_mid (by rfl) _ _ rfl X 0 rfl Lc _ (fun w' h => h) hu100 rfl hi100) hHeld ?_
  try simp only [Act.put, List.setIfInBounds_toArray, List.set_cons_zero, List.set_cons_succ]
  refine wpAnyH_take (i := 2) (v := .string s) rfl (by kernel_rfl) (by kernel_rfl) (by kernel_rfl) (fun _ _ _ h => h) (Or.inl ⟨by rfl, fun w' _ => by rfl⟩) hHeld ?_
  try simp only [Act.put, List.setIfInBounds_toArray, List.set_cons_zero, List.set_cons_succ]
  refine wpAnyH_ready (rs := [3]) (by kernel_rfl) (by simp) (AllReadyH.cons rfl (fun K hK => ?_) AllReadyH.nil)
  go_simp
  have yr : ((w3.alloc (.cells #[.string s] 9)).drew).rangeAt X 0 Lc := fun j v hj => new_past hlt3 (xr j v hj)
  have hb4 : Below w.heap.size w ((w3.alloc (.cells #[.string s] 9)).drew) := (HB3.out.alloc HB3.out.size _).drew
  have hc4 : ((w3.alloc (.cells #[.string s] 9)).drew).cell? ⟨w3.heap.size, 0, none⟩ = some (.string s) := cell_of (alloc_heap w3 _) 0
  have hm4 : HasherAt ((w3.alloc (.cells #[.string s] 9)).drew) h [] := HasherAt.keep (W := w3) HM3.out (((Below.refl _ _).alloc (Nat.le_refl _) _).drew)
  have hl4 : w3.heap.size < ((w3.alloc (.cells #[.string s] 9)).drew).heap.size := by simp
  have hh3 := HM3.out.lt
  refine hK.out _ _ yr (fun hHeld2 => ?_)
  clear hK K hHeld
  try simp only [Act.put, List.setIfInBounds_toArray, List.set_cons_zero, List.set_cons_succ]
  generalize (w3.alloc (.cells #[.string s] 9)).drew = w4 at yr hb4 hc4 hm4 hl4 hHeld2 ⊢
  refine wpAnyH_ready (rs := [4]) (by kernel_rfl) (by simp) (AllReadyH.cons rfl (fun K hK => ?_) AllReadyH.nil)
  go_simp
  refine (K54.out w4 w3.heap.size (HG.out.below (hb4.mono HG.out.size)) ⟨_, hm4⟩ (by omega) hl4 hc4).mono ?_
  rintro e w5 ⟨rfl, hm5, hf5⟩
  have zr : w5.rangeAt X 0 Lc := fun j v hj => (hf5.cell (p := ⟨X, 0 + j, none⟩) (by show X < w4.heap.size; omega) hXh).trans (yr j v hj)
  have hb5 : Below w.heap.size w w5 := hb4.trans (hf5.to_below hb4.size (by omega))
  go_wp2_with fail
  refine hK.out _ _ zr (fun hHeld3 => ?_)
  clear hK K hHeld2
  try simp only [Act.put, List.setIfInBounds_toArray, List.set_cons_zero, List.set_cons_succ]
  refine wpAnyH_ready (rs := [5]) (by kernel_rfl) (by simp) (AllReadyH.cons rfl (fun K hK => ?_) AllReadyH.nil)
  go_simp
  have ur : (w5.alloc (.cells #[.string inn] 9)).rangeAt X 0 Lc := fun j v hj => new_past (show X < w5.heap.size from Nat.lt_of_lt_of_le (show X < w4.heap.size by omega) hf5.size) (zr j v hj)
  have hb6 : Below w.heap.size w (w5.alloc (.cells #[.string inn] 9)) := hb5.alloc hb5.size _
  have hc6 : (w5.alloc (.cells #[.string inn] 9)).cell? ⟨w5.heap.size, 0, none⟩ = some (.string inn) := cell_of (alloc_heap w5 _) 0
  have hh5 : h < w5.heap.size := hm5.choose_spec.lt
  have hm6 : ∃ m, HasherAt (w5.alloc (.cells #[.string inn] 9)) h m := ⟨_, hm5.choose_spec.keep ((Below.refl _ _).alloc (Nat.le_refl _) _)⟩
  have hl6 : w5.heap.size < (w5.alloc (.cells #[.string inn] 9)).heap.size := by simp
  have hX5 : X < w5.heap.size := Nat.lt_of_lt_of_le (show X < w4.heap.size by omega) hf5.size
  refine hK.out _ _ ur (fun hHeld4 => ?_)
  clear hK K hHeld3
  try simp only [Act.put, List.setIfInBounds_toArray, List.set_cons_zero, List.set_cons_succ]
  generalize w5.alloc (.cells #[.string inn] 9) = w6 at ur hb6 hc6 hm6 hl6 hHeld4 ⊢
  refine wpAnyH_ready (rs := [6]) (by kernel_rfl) (by simp) (AllReadyH.cons rfl (fun K hK => ?_) AllReadyH.nil)
  go_simp
  refine (K92.out w6 w5.heap.size (HG.out.below (hb6.mono HG.out.size)) hm6 (by omega) hl6 hc6).mono ?_
  rintro e w7 ⟨rfl, hm7, hf7⟩
  have vr : w7.rangeAt X 0 Lc := fun j v hj => (hf7.cell (p := ⟨X, 0 + j, none⟩) (by show X < w6.heap.size; omega) hXh).trans (ur j v hj)
  have hb7 : Below w.heap.size w w7 := hb6.trans (hf7.to_below hb6.size (by omega))
  go_wp2_with fail
  refine hK.out _ _ vr (fun hHeld5 => ?_)
  clear hK K hHeld4
  try simp only [Act.put, List.setIfInBounds_toArray, List.set_cons_zero, List.set_cons_succ]
  refine wpAnyH_take (i := 7) (oi := { dst := some 4, op := Op.assign (Operand.tmp 25), type := 9, pos := _, after := _, guard := none }) (v := .string tg) rfl (by kernel_rfl) (by kernel_rfl) (by kernel_rfl) (fun _ _ _ h => h) (Or.inl ⟨by rfl, fun w' _ => by rfl⟩) hHeld5 ?_
  try simp only [Act.put, List.setIfInBounds_toArray, List.set_cons_zero, List.set_cons_succ]
  refine wpAnyH_take (i := 8) (oi := { dst := some 5, op := Op.assign (Operand.const (Value.int IntKind.i64 0)), type := 27, pos := _, after := _, guard := none }) (v := .int .i64 0) rfl (by kernel_rfl) (by kernel_rfl) (by kernel_rfl) (fun _ _ _ h => h) (Or.inl ⟨by rfl, fun w' _ => by rfl⟩) hHeld5 ?_
  try simp only [Act.put, List.setIfInBounds_toArray, List.set_cons_zero, List.set_cons_succ]
  refine wpAnyH_done (by kernel_rfl) ?_ _
  go_wp2_with fail
  exact bodyPost_ret (v := _) (by simp [results, Tryd.results53, go_sem]) rfl ⟨rfl, hb7⟩
theorem tag_long {w : World} (k s : ByteArray) (hk : k.size ≤ 1000000) (hs : s.size ≤ 1000000) (h : 100000 < k.size ∨ 99936 < s.size) :
    Calls Tryd.prog 53 #[.string k, .string s] w fun e w' => e = .returned (.tuple #[.string ⟨#[]⟩, .int .i64 20]) ∧ w = w' := by
  by_cases hk2 : 100000 < k.size
  · have i0 : (100000 : Int) < (k.size : Int) := by omega
    go_enter Tryd.func53, Tryd.ntmps53
    go_wp2_with fail
    exact bodyPost_ret (v := _) (by simp [results, Tryd.results53, go_sem]) rfl ⟨rfl, rfl⟩
  · have i0 : ¬ ((100000 : Int) < (k.size : Int)) := by omega
    have i1 : (99936 : Int) < (s.size : Int) := by omega
    go_enter Tryd.func53, Tryd.ntmps53
    go_wp2_with fail
    exact bodyPost_ret (v := _) (by simp [results, Tryd.results53, go_sem]) rfl ⟨rfl, rfl⟩
end Go.Proofs.YtfafidholldjlaaDoor
