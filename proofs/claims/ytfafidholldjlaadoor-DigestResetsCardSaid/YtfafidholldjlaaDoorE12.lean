/- digest.Sum: a message's sum, of at most a hundred thousand bytes; of more. -/
import Derived.Test.YtfafidholldjlaaDoorE11
set_option linter.unusedVariables false
set_option linter.unusedSimpArgs false
namespace Go.Proofs.YtfafidholldjlaaDoor
open Go.RowKit
theorem shaBytes_size (m : List UInt8) : (shaBytes m).size = 32 := by
  show (stBytes (Sha.sumOf m)).toArray.size = 32
  simp [stBytes, wordBytes]
set_option maxRecDepth 100000 in
theorem dsum_ok {B : Nat} {aw ab : Addr} {w : World} (hG : Glob B aw ab w) (s : ByteArray) (hs : s.size ≤ 100000) :
    Calls Tryd.prog 40 #[.string s] w fun e w' => e = .returned (.tuple #[.string (shaBytes s.data.toList), .int .i64 0]) ∧ Below w.heap.size w w' := by
  have HG := Lib.hid hG
  have HSZ := Lib.hid hs
  obtain ⟨bs, hbs⟩ : ∃ bs, shaBytes s.data.toList = bs := ⟨_, rfl⟩
  have hb32 : bs.size = 32 := by rw [← hbs]; exact shaBytes_size _
  rw [hbs]
  have HBS := Lib.hid hbs
  have HB32 := Lib.hid hb32
  clear hG hs hbs hb32
  go_enter Tryd.func40, Tryd.ntmps40
  go_wp2_with fail
  refine (new_any _).mono ?_
  rintro e w1 ⟨h, rfl, hh, hr, hb1⟩
  have HN := Lib.hid (hasher_new hr)
  have HB1 := Lib.hid hb1
  clear hr hb1
  go_wp2_with fail
  refine (write_ok (HG.out.below (HB1.out.mono HG.out.size)) h (Nat.le_trans HG.out.size hh) [] s HN.out (by simpa using HSZ.out)).mono ?_
  rintro e w2 ⟨rfl, hm2, hf2⟩
  have hb2 : Below w.heap.size w w2 := HB1.out.trans (hf2.to_below HB1.out.size (by omega))
  rw [List.nil_append] at hm2
  have HM2 := Lib.hid hm2
  have HB2 := Lib.hid hb2
  clear hm2 hb2 hf2
  go_wp2_with fail
  refine (hsum_any (HG.out.below (HB2.out.mono HG.out.size)) h (Nat.le_trans HG.out.size hh) _ HM2.out (by exact HSZ.out)).mono ?_
  rintro e w3 ⟨rfl, hm3, hf3⟩
  have hb3 : Below w.heap.size w w3 := HB2.out.trans (hf3.to_below HB2.out.size (by omega))
  rw [HBS.out]
  have HB3 := Lib.hid hb3
  clear hm3 hf3 hb3
  go_wp2_with fail
  refine (clone_any bs (by have := HB32.out; omega) (by have := HB32.out; omega) _).mono ?_
  rintro e w4 ⟨rfl, hb4⟩
  have HB4 := Lib.hid (HB3.out.trans (hb4.mono HB3.out.size))
  clear hb4
  go_wp2_with fail
  exact bodyPost_ret (v := _) (by simp [results, Tryd.results40, go_sem]) rfl ⟨rfl, HB4.out⟩
set_option maxRecDepth 100000 in
theorem write_long {w : World} (h : Nat) (m : List UInt8) (q : ByteArray) (hm : HasherAt w h m) (hn : 100000 < m.length + q.size) (hq : q.size ≤ 1000000) (hml : m.length ≤ 1000000) (hg : w.cell? ⟨4, 0, none⟩ = some (.iface 157 (.agg #[.pointer (some ⟨6, 67, none⟩)]))) (h4 : 4 < w.heap.size) :
    Calls Tryd.prog 43 #[.pointer (some ⟨h, 0, none⟩), .string q] w fun e w' => e = .returned (.int .i64 20) ∧ HasherAt w' h m ∧ Below w.heap.size w w' := by
  obtain ⟨v, hr, hv⟩ := hm
  have c9 : w.cell? ⟨h, 9, none⟩ = some (.int .i64 ((m.length : Nat) : Int)) := cell_of hr 9
  have h1 : 100000 < (m.length : Int) + (q.size : Int) := by omega
  have h2 : (m.length : Int) ≤ 1000000 := by omega
  have h3 : (q.size : Int) ≤ 1000000 := by omega
  have HM : Hid (HasherAt w h m) := Lib.hid ⟨v, hr, hv⟩
  have Hg := Lib.hid hg
  clear hr hv hg
  go_enter Tryd.func43, Tryd.ntmps43
  go_wp2_with fail
  refine (check_bad _ (.inr h1) _).mono ?_
  rintro e w1 ⟨⟨k, rfl⟩, rfl⟩
  go_wp2_with fail
  refine (dtold_long k _ Hg.out h4).mono ?_
  rintro e w1 ⟨rfl, hb⟩
  have HB := Lib.hid hb
  clear hb
  go_wp2_with fail
  go_ret
  obtain ⟨v, hr, hv⟩ := HM.out
  exact ⟨rfl, ⟨v, (HB.out.block h (lt_of_heap hr)).trans hr, hv.far (Far.of_below HB.out _)⟩, HB.out⟩
end Go.Proofs.YtfafidholldjlaaDoor
