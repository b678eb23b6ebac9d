/- Bytes. -/
import Derived.Test.YtfafidholldjlaaDoorA11
set_option linter.unusedVariables false
set_option linter.unusedSimpArgs false
namespace Go.Proofs.YtfafidholldjlaaDoor
open Go.RowKit
theorem info5 : (Tryd.prog.info? 5).map (fun i => (i.zero, i.size, i.bytes)) = some (some (.int .u8 0), 1, 1) := by kernel_rfl
/-- A word's bytes. -/
def wordBytes (x : Nat) : List UInt8 := [UInt8.ofNat (x / 16777216), UInt8.ofNat (x / 65536), UInt8.ofNat (x / 256), UInt8.ofNat x]
def stBytes (s : Sha.St) : List UInt8 := wordBytes s.a ++ wordBytes s.b ++ wordBytes s.c ++ wordBytes s.d ++ wordBytes s.e ++ wordBytes s.f ++ wordBytes s.g ++ wordBytes s.h
def byteCells (l : List UInt8) : List Value := l.map fun b => Value.int .u8 (b.toNat : Int)
theorem byteCells_append (l m : List UInt8) : byteCells (l ++ m) = byteCells l ++ byteCells m := by simp [byteCells]
theorem wordCells (x : Nat) : byteCells (wordBytes x) = [.int .u8 ((x : Int) / 16777216 % 256), .int .u8 ((x : Int) / 65536 % 256), .int .u8 ((x : Int) / 256 % 256), .int .u8 ((x : Int) % 256)] := by
  simp [byteCells, wordBytes]
theorem new4 (w : World) (a b c d : Value) (t : TypeId) : ∀ j u, [a, b, c, d][j]? = some u → (w.alloc (.cells #[a, b, c, d] t)).cell? ((⟨w.heap.size, 0, none⟩ : Addr).add j) = some u := by
  intro j u hj
  have hadd : (⟨w.heap.size, 0, none⟩ : Addr).add j = ⟨w.heap.size, j, none⟩ := by unfold Addr.add; split <;> simp_all
  rw [hadd]
  exact new_at rfl (by simpa using hj)
set_option maxRecDepth 100000 in
set_option maxHeartbeats 4000000 in
theorem bytes_ok (s : Sha.St) (hs : s.ok) {B : Nat} {aw ab : Addr} {w : World} (h : Glob B aw ab w) :
    Calls Tryd.prog 31 #[.agg #[.int .i64 s.a, .int .i64 s.b, .int .i64 s.c, .int .i64 s.d, .int .i64 s.e, .int .i64 s.f, .int .i64 s.g, .int .i64 s.h]] w fun e w' => e = .returned (.tuple #[.string ⟨(stBytes s).toArray⟩, .int .i64 0]) ∧ Below w.heap.size w w' := by
  have H := Lib.hid h
  have Hs := Lib.hid hs
  clear h hs
  obtain ⟨i0, hi, hz0, hz1, hz2⟩ := info_parts info5
  go_enter Tryd.func31, Tryd.ntmps31
  go_wp2_with fail
  refine (of_any s Hs.out _).mono ?_
  rintro e w1 ⟨rfl, hb1⟩
  simp only [World.size_alloc] at hb1
  have z1 : w.heap.size < w1.heap.size := by have := hb1.size; simp at this; omega
  have hw1 : Below w.heap.size w w1 := ((Below.refl _ w).alloc (Nat.le_refl _) _).trans (hb1.mono (by omega))
  clear hb1
  have Hw1 := Lib.hid hw1
  clear hw1
  have Hi := Lib.hid hi
  have Hz0 := Lib.hid hz0
  have Hz1 := Lib.hid hz1
  have Hz2 := Lib.hid hz2
  clear hi hz0 hz1 hz2
  go_wp2_with fail
  have hf0 : Below (w1.heap.size + 1) (w1.alloc (.cells #[.int .u32 s.a, .int .u32 s.b, .int .u32 s.c, .int .u32 s.d, .int .u32 s.e, .int .u32 s.f, .int .u32 s.g, .int .u32 s.h] 78)) (w1.alloc (.cells #[.int .u32 s.a, .int .u32 s.b, .int .u32 s.c, .int .u32 s.d, .int .u32 s.e, .int .u32 s.f, .int .u32 s.g, .int .u32 s.h] 78)) := Below.refl _ _
  have hn0 : w1.heap.size + 1 ≤ (w1.alloc (.cells #[.int .u32 s.a, .int .u32 s.b, .int .u32 s.c, .int .u32 s.d, .int .u32 s.e, .int .u32 s.f, .int .u32 s.g, .int .u32 s.h] 78)).heap.size := by simp
  have o0 := World.ownsRow_nil (w1.alloc (.cells #[.int .u32 s.a, .int .u32 s.b, .int .u32 s.c, .int .u32 s.d, .int .u32 s.e, .int .u32 s.f, .int .u32 s.g, .int .u32 s.h] 78)) (w1.heap.size + 1) 5 1
  generalize hW0 : w1.alloc (.cells #[.int .u32 s.a, .int .u32 s.b, .int .u32 s.c, .int .u32 s.d, .int .u32 s.e, .int .u32 s.f, .int .u32 s.g, .int .u32 s.h] 78) = W0 at hf0 hn0 o0 ⊢
  have HW0 := Lib.hid hW0
  have O0 := Lib.hid o0
  have F0 := Lib.hid hf0
  clear hW0 o0 hf0
  refine wp_loop_rounds 9 ?_
  rw [rounds_succ]
  go_wp2_with (at_builtin; refine wpList_append_own _ rfl (.tmp 22) (.tmp 34) 40 rfl (w1.heap.size + 1) 5 i0 (.int .u8 0) 1 1 Tryd.underlying40 Hi.out Hz0.out Hz1.out Hz2.out rfl (by decide) _ _ _ rfl (O0.out.alloc _) ⟨W0.heap.size, 0, none⟩ 4 4 [.int .u8 ((s.a : Int) / 16777216 % 256), .int .u8 ((s.a : Int) / 65536 % 256), .int .u8 ((s.a : Int) / 256 % 256), .int .u8 ((s.a : Int) % 256)] rfl rfl (new4 _ _ _ _ _ _) (by simp [Value.oneCell']) (by unfold maxLen; omega) (by omega) (Nat.le_trans hn0 (by simp)) ?_; intro v1 W1 o1 hgrow _; obtain ⟨g1, cap1, rfl, hg1, hl1⟩ := ownsRow_form o1; have hn1 : w1.heap.size + 1 ≤ W1.heap.size := (by omega); have hrl := O0.out.lt; have hf1 := F0.out.trans (((Below.refl (w1.heap.size + 1) W0).alloc hn0 _).grown hgrow (Nat.le_trans hn0 (by simp)) (fun k e => (hrl k e).1)); have O1 := Lib.hid o1; have F1 := Lib.hid hf1; clear o1 hf1 hgrow hrl)
  rw [rounds_succ]
  go_wp2_with (at_builtin; refine wpList_append_own _ rfl (.tmp 22) (.tmp 34) 40 rfl (w1.heap.size + 1) 5 i0 (.int .u8 0) 1 1 Tryd.underlying40 Hi.out Hz0.out Hz1.out Hz2.out rfl (by decide) _ _ _ rfl (O1.out.alloc _) ⟨W1.heap.size, 0, none⟩ 4 4 [.int .u8 ((s.b : Int) / 16777216 % 256), .int .u8 ((s.b : Int) / 65536 % 256), .int .u8 ((s.b : Int) / 256 % 256), .int .u8 ((s.b : Int) % 256)] rfl rfl (new4 _ _ _ _ _ _) (by simp [Value.oneCell']) (by unfold maxLen; omega) (by omega) (Nat.le_trans hn1 (by simp)) ?_; intro v2 W2 o2 hgrow _; obtain ⟨g2, cap2, rfl, hg2, hl2⟩ := ownsRow_form o2; have hn2 : w1.heap.size + 1 ≤ W2.heap.size := (by omega); have hrl := O1.out.lt; have hf2 := F1.out.trans (((Below.refl (w1.heap.size + 1) W1).alloc hn1 _).grown hgrow (Nat.le_trans hn1 (by simp)) (fun k e => (hrl k e).1)); have O2 := Lib.hid o2; have F2 := Lib.hid hf2; clear o2 hf2 hgrow hrl)
  rw [rounds_succ]
  go_wp2_with (at_builtin; refine wpList_append_own _ rfl (.tmp 22) (.tmp 34) 40 rfl (w1.heap.size + 1) 5 i0 (.int .u8 0) 1 1 Tryd.underlying40 Hi.out Hz0.out Hz1.out Hz2.out rfl (by decide) _ _ _ rfl (O2.out.alloc _) ⟨W2.heap.size, 0, none⟩ 4 4 [.int .u8 ((s.c : Int) / 16777216 % 256), .int .u8 ((s.c : Int) / 65536 % 256), .int .u8 ((s.c : Int) / 256 % 256), .int .u8 ((s.c : Int) % 256)] rfl rfl (new4 _ _ _ _ _ _) (by simp [Value.oneCell']) (by unfold maxLen; omega) (by omega) (Nat.le_trans hn2 (by simp)) ?_; intro v3 W3 o3 hgrow _; obtain ⟨g3, cap3, rfl, hg3, hl3⟩ := ownsRow_form o3; have hn3 : w1.heap.size + 1 ≤ W3.heap.size := (by omega); have hrl := O2.out.lt; have hf3 := F2.out.trans (((Below.refl (w1.heap.size + 1) W2).alloc hn2 _).grown hgrow (Nat.le_trans hn2 (by simp)) (fun k e => (hrl k e).1)); have O3 := Lib.hid o3; have F3 := Lib.hid hf3; clear o3 hf3 hgrow hrl)
  rw [rounds_succ]
  go_wp2_with (at_builtin; refine wpList_append_own _ rfl (.tmp 22) (.tmp 34) 40 rfl (w1.heap.size + 1) 5 i0 (.int .u8 0) 1 1 Tryd.underlying40 Hi.out Hz0.out Hz1.out Hz2.out rfl (by decide) _ _ _ rfl (O3.out.alloc _) ⟨W3.heap.size, 0, none⟩ 4 4 [.int .u8 ((s.d : Int) / 16777216 % 256), .int .u8 ((s.d : Int) / 65536 % 256), .int .u8 ((s.d : Int) / 256 % 256), .int .u8 ((s.d : Int) % 256)] rfl rfl (new4 _ _ _ _ _ _) (by simp [Value.oneCell']) (by unfold maxLen; omega) (by omega) (Nat.le_trans hn3 (by simp)) ?_; intro v4 W4 o4 hgrow _; obtain ⟨g4, cap4, rfl, hg4, hl4⟩ := ownsRow_form o4; have hn4 : w1.heap.size + 1 ≤ W4.heap.size := (by omega); have hrl := O3.out.lt; have hf4 := F3.out.trans (((Below.refl (w1.heap.size + 1) W3).alloc hn3 _).grown hgrow (Nat.le_trans hn3 (by simp)) (fun k e => (hrl k e).1)); have O4 := Lib.hid o4; have F4 := Lib.hid hf4; clear o4 hf4 hgrow hrl)
  rw [rounds_succ]
  go_wp2_with (at_builtin; refine wpList_append_own _ rfl (.tmp 22) (.tmp 34) 40 rfl (w1.heap.size + 1) 5 i0 (.int .u8 0) 1 1 Tryd.underlying40 Hi.out Hz0.out Hz1.out Hz2.out rfl (by decide) _ _ _ rfl (O4.out.alloc _) ⟨W4.heap.size, 0, none⟩ 4 4 [.int .u8 ((s.e : Int) / 16777216 % 256), .int .u8 ((s.e : Int) / 65536 % 256), .int .u8 ((s.e : Int) / 256 % 256), .int .u8 ((s.e : Int) % 256)] rfl rfl (new4 _ _ _ _ _ _) (by simp [Value.oneCell']) (by unfold maxLen; omega) (by omega) (Nat.le_trans hn4 (by simp)) ?_; intro v5 W5 o5 hgrow _; obtain ⟨g5, cap5, rfl, hg5, hl5⟩ := ownsRow_form o5; have hn5 : w1.heap.size + 1 ≤ W5.heap.size := (by omega); have hrl := O4.out.lt; have hf5 := F4.out.trans (((Below.refl (w1.heap.size + 1) W4).alloc hn4 _).grown hgrow (Nat.le_trans hn4 (by simp)) (fun k e => (hrl k e).1)); have O5 := Lib.hid o5; have F5 := Lib.hid hf5; clear o5 hf5 hgrow hrl)
  rw [rounds_succ]
  go_wp2_with (at_builtin; refine wpList_append_own _ rfl (.tmp 22) (.tmp 34) 40 rfl (w1.heap.size + 1) 5 i0 (.int .u8 0) 1 1 Tryd.underlying40 Hi.out Hz0.out Hz1.out Hz2.out rfl (by decide) _ _ _ rfl (O5.out.alloc _) ⟨W5.heap.size, 0, none⟩ 4 4 [.int .u8 ((s.f : Int) / 16777216 % 256), .int .u8 ((s.f : Int) / 65536 % 256), .int .u8 ((s.f : Int) / 256 % 256), .int .u8 ((s.f : Int) % 256)] rfl rfl (new4 _ _ _ _ _ _) (by simp [Value.oneCell']) (by unfold maxLen; omega) (by omega) (Nat.le_trans hn5 (by simp)) ?_; intro v6 W6 o6 hgrow _; obtain ⟨g6, cap6, rfl, hg6, hl6⟩ := ownsRow_form o6; have hn6 : w1.heap.size + 1 ≤ W6.heap.size := (by omega); have hrl := O5.out.lt; have hf6 := F5.out.trans (((Below.refl (w1.heap.size + 1) W5).alloc hn5 _).grown hgrow (Nat.le_trans hn5 (by simp)) (fun k e => (hrl k e).1)); have O6 := Lib.hid o6; have F6 := Lib.hid hf6; clear o6 hf6 hgrow hrl)
  rw [rounds_succ]
  go_wp2_with (at_builtin; refine wpList_append_own _ rfl (.tmp 22) (.tmp 34) 40 rfl (w1.heap.size + 1) 5 i0 (.int .u8 0) 1 1 Tryd.underlying40 Hi.out Hz0.out Hz1.out Hz2.out rfl (by decide) _ _ _ rfl (O6.out.alloc _) ⟨W6.heap.size, 0, none⟩ 4 4 [.int .u8 ((s.g : Int) / 16777216 % 256), .int .u8 ((s.g : Int) / 65536 % 256), .int .u8 ((s.g : Int) / 256 % 256), .int .u8 ((s.g : Int) % 256)] rfl rfl (new4 _ _ _ _ _ _) (by simp [Value.oneCell']) (by unfold maxLen; omega) (by omega) (Nat.le_trans hn6 (by simp)) ?_; intro v7 W7 o7 hgrow _; obtain ⟨g7, cap7, rfl, hg7, hl7⟩ := ownsRow_form o7; have hn7 : w1.heap.size + 1 ≤ W7.heap.size := (by omega); have hrl := O6.out.lt; have hf7 := F6.out.trans (((Below.refl (w1.heap.size + 1) W6).alloc hn6 _).grown hgrow (Nat.le_trans hn6 (by simp)) (fun k e => (hrl k e).1)); have O7 := Lib.hid o7; have F7 := Lib.hid hf7; clear o7 hf7 hgrow hrl)
  rw [rounds_succ]
  go_wp2_with (at_builtin; refine wpList_append_own _ rfl (.tmp 22) (.tmp 34) 40 rfl (w1.heap.size + 1) 5 i0 (.int .u8 0) 1 1 Tryd.underlying40 Hi.out Hz0.out Hz1.out Hz2.out rfl (by decide) _ _ _ rfl (O7.out.alloc _) ⟨W7.heap.size, 0, none⟩ 4 4 [.int .u8 ((s.h : Int) / 16777216 % 256), .int .u8 ((s.h : Int) / 65536 % 256), .int .u8 ((s.h : Int) / 256 % 256), .int .u8 ((s.h : Int) % 256)] rfl rfl (new4 _ _ _ _ _ _) (by simp [Value.oneCell']) (by unfold maxLen; omega) (by omega) (Nat.le_trans hn7 (by simp)) ?_; intro v8 W8 o8 hgrow _; obtain ⟨g8, cap8, rfl, hg8, hl8⟩ := ownsRow_form o8; have hn8 : w1.heap.size + 1 ≤ W8.heap.size := (by omega); have hrl := O7.out.lt; have hf8 := F7.out.trans (((Below.refl (w1.heap.size + 1) W7).alloc hn7 _).grown hgrow (Nat.le_trans hn7 (by simp)) (fun k e => (hrl k e).1)); have O8 := Lib.hid o8; have F8 := Lib.hid hf8; clear o8 hf8 hgrow hrl)
  have hx : ∀ j u, (byteCells (stBytes s))[j]? = some u → W8.cell? ⟨g8, j, none⟩ = some u := by
    intro j u hj
    refine ownsRow_cell O8.out j u ?_
    simp only [stBytes, byteCells_append, wordCells] at hj
    simpa using hj
  have hcv := run_convert_bytes_back (P := Tryd.prog) W8 40 9 5 ⟨g8, 0, none⟩ cap8 (stBytes s) Tryd.underlying40 Tryd.underlying5 Tryd.underlying9 (fun j hj => by
    rw [Addr.add_lit, Nat.zero_add]
    refine hx j _ ?_
    simp [byteCells, List.getElem?_eq_getElem hj])
  have HCV : (convert 40 9 (.slice (some ⟨g8, 0, none⟩) 32 cap8)).run Tryd.prog W8 = .ok (.string ⟨(stBytes s).toArray⟩) W8 := hcv
  clear hcv hx
  rw [rounds_succ]
  go_wp2_with fail
  have hw : Below w.heap.size w W8 := by
    have e1 : Below w.heap.size w1 W0 := HW0.out ▸ (Below.refl w.heap.size w1).alloc (by omega) _
    exact Hw1.out.trans (e1.trans (F8.out.mono (by omega)))
  exact bodyPost_ret (v := _) (by simp [results, Tryd.results31, go_sem]) rfl ⟨rfl, hw⟩

set_option maxRecDepth 100000 in
theorem bytes_bad (s0 s1 s2 s3 s4 s5 s6 s7 : Int) (hbad : ¬ Words8 s0 s1 s2 s3 s4 s5 s6 s7) {B : Nat} {aw ab : Addr} {w : World} (h : Glob B aw ab w) :
    Calls Tryd.prog 31 #[.agg #[.int .i64 s0, .int .i64 s1, .int .i64 s2, .int .i64 s3, .int .i64 s4, .int .i64 s5, .int .i64 s6, .int .i64 s7]] w fun e w' => e = .returned (.tuple #[.string ⟨#[]⟩, .int .i64 11]) ∧ Below w.heap.size w w' := by
  have H := Lib.hid h
  have Hb := Lib.hid hbad
  have hof := Lib.hid (fun W (hW : Below w.heap.size w W) => of_bad s0 s1 s2 s3 s4 s5 s6 s7 Hb.out (h.below (hW.mono h.size)))
  clear h hbad
  go_enter Tryd.func31, Tryd.ntmps31
  go_wp2_with fail
  refine (hof.out _ ((Below.refl _ _).alloc (Nat.le_refl _) _)).mono ?_
  rintro e w1 ⟨rfl, hb1⟩
  simp only [World.size_alloc] at hb1
  have z1 : w.heap.size < w1.heap.size := by have := hb1.size; simp at this; omega
  have hw1 : Below w.heap.size w w1 := ((Below.refl _ w).alloc (Nat.le_refl _) _).trans (hb1.mono (by omega))
  have HW1 := Lib.hid hw1
  clear hb1 hw1
  go_wp2_with fail
  refine (told_word (H.out.below ((HW1.out.mono H.out.size).alloc (by have := H.out.size; omega) _))).mono ?_
  rintro e w' ⟨rfl, rfl⟩
  go_wp2_with fail
  exact bodyPost_ret (v := _) (by simp [results, Tryd.results31, go_sem]) rfl ⟨rfl, HW1.out.alloc HW1.out.size _⟩
end Go.Proofs.YtfafidholldjlaaDoor
