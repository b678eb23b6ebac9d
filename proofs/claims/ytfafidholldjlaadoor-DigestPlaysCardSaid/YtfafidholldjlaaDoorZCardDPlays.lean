/- Proved: DigestPlays answers true for every input, never panics, and its input reads as it did; the one condition: the listed variables hold what the program's own text lays in them. -/
import Derived.Test.YtfafidholldjlaaDoorZN
import Derived.Test.YtfafidholldjlaaDoorZK
import Derived.Test.YtfafidholldjlaaDoorZL
import Derived.Test.YtfafidholldjlaaDoorZC
import Derived.Deep.AppendLies
import Derived.Deep.RegionHeld3
import Derived.ReadAgain
import Derived.ChangeSlices
import Derived.Deep.SlicePairs
/- The document's hasher: it keeps what was written. -/
set_option linter.unusedVariables false
set_option linter.unusedSimpArgs false
namespace Go.Proofs.YtfafidholldjlaaDoor
open Go.RowKit
theorem refWrite_ok (h : Nat) (T : TypeId) (m q : ByteArray) (hn : m.size + q.size ≤ 100000) {w : World} (hh : w.heap[h]? = some (.cells #[.string m] T (0, 0))) :
    Calls Tryd.prog 47 #[.pointer (some ⟨h, 0, none⟩), .string q] w fun e w' => e = .returned (.int .i64 0) ∧ w'.heap[h]? = some (.cells #[.string (m ++ q)] T (0, 0)) ∧ Far (· = h) w w' := by
  have c0 : w.cell? ⟨h, 0, none⟩ = some (.string m) := cell_of hh 0
  have f0 := frozen_of hh 0
  have HH := Lib.hid hh
  clear hh
  have l0 : (m.size : Int) + (q.size : Int) ≤ 100000 := by omega
  have l1 : (m.size : Int) ≤ 8388608 := by omega
  have l2 : (q.size : Int) ≤ 8388608 := by omega
  have l3 : m.size + q.size ≤ 9223372036854775807 := by omega
  go_enter Tryd.func47, Tryd.ntmps47
  go_wp2_with fail
  go_ret
  exact ⟨rfl, setCell_heap HH.out 0 _, Far.setCell (D := (· = h)) (p := ⟨h, 0, none⟩) (Far.refl _ _) (fun _ => rfl) _⟩
theorem refWrite_long (h : Nat) (T : TypeId) (m q : ByteArray) (hn : 100000 < m.size + q.size) (hm : m.size ≤ 1000000) (hq : q.size ≤ 1000000) {w : World} (hh : w.heap[h]? = some (.cells #[.string m] T (0, 0))) :
    Calls Tryd.prog 47 #[.pointer (some ⟨h, 0, none⟩), .string q] w fun e w' => e = .returned (.int .i64 20) ∧ w = w' := by
  have c0 : w.cell? ⟨h, 0, none⟩ = some (.string m) := cell_of hh 0
  clear hh
  have l0 : 100000 < (m.size : Int) + (q.size : Int) := by omega
  have l1 : (m.size : Int) ≤ 1000000 := by omega
  have l2 : (q.size : Int) ≤ 1000000 := by omega
  go_enter Tryd.func47, Tryd.ntmps47
  go_wp2_with fail
  go_ret
  exact ⟨rfl, rfl⟩
theorem refHSum_ok (h : Nat) (T : TypeId) (m : ByteArray) (hm : m.size ≤ 100000) {w : World} (hK : RefK w) (h1 : 1 < w.heap.size) (hh : w.heap[h]? = some (.cells #[.string m] T (0, 0))) :
    Calls Tryd.prog 48 #[.pointer (some ⟨h, 0, none⟩)] w fun e w' => e = .returned (.string (shaBytes m.data.toList)) ∧ Below w.heap.size w w' := by
  have c0 : w.cell? ⟨h, 0, none⟩ = some (.string m) := cell_of hh 0
  have HK := Lib.hid hK
  clear hh hK
  obtain ⟨bs, hbs⟩ : ∃ b, shaBytes m.data.toList = b := ⟨_, rfl⟩
  rw [hbs]
  have HBS := Lib.hid hbs
  clear hbs
  go_enter Tryd.func48, Tryd.ntmps48
  go_wp2_with fail
  refine (refSum_ok HK.out h1 m hm).mono ?_
  rintro e w1 ⟨rfl, hb1⟩
  rw [HBS.out]
  have HB1 := Lib.hid hb1
  clear hb1
  go_wp2_with fail
  go_ret
  exact ⟨rfl, HB1.out⟩
end Go.Proofs.YtfafidholldjlaaDoor
/- The first fifteen calls. -/
set_option linter.unusedVariables false
set_option linter.unusedSimpArgs false
namespace Go.Proofs.YtfafidholldjlaaDoor
open Go.RowKit
theorem info60 : (Tryd.prog.info? 60).map (fun i => (i.zero, i.size, i.bytes)) = some (some (.agg #[.int .i64 0, .string ⟨#[]⟩]), 2, 24) := by kernel_rfl
/-- The cells of the first calls, texts at three hundred bytes. -/
def fewRow (k : Nat → Int) (s : Nat → ByteArray) (t : Nat) : List Value := (List.range t).flatMap fun i => [.int .i64 (k i), .string (front (s i) 300)]
theorem fewRow_succ (k : Nat → Int) (s : Nat → ByteArray) (t : Nat) : fewRow k s (t + 1) = fewRow k s t ++ [.int .i64 (k t), .string (front (s t) 300)] := by
  unfold fewRow
  rw [List.range_succ, List.flatMap_append]
  rfl
theorem fewRow_length (k : Nat → Int) (s : Nat → ByteArray) : ∀ t, (fewRow k s t).length = 2 * t
  | 0 => rfl
  | t + 1 => by rw [fewRow_succ, List.length_append, fewRow_length k s t]; rfl
set_option maxRecDepth 100000 in
set_option maxHeartbeats 1000000 in
theorem few_any (a : Option Addr) (len cap : Nat) (k : Nat → Int) (s : Nat → ByteArray) (w : World) (hlen : len ≤ maxLen)
    (hz : ∀ i, i < len → ∃ b off, a = some ⟨b, off, none⟩ ∧ b < w.heap.size ∧ w.cell? ⟨b, off + i * 2, none⟩ = some (.int .i64 (k i)) ∧ w.cell? ⟨b, off + i * 2 + 1, none⟩ = some (.string (s i)) ∧ (s i).size ≤ maxLen) :
    Calls Tryd.prog 46 #[.slice a len cap] w fun e w' => ∃ v, e = .returned v ∧ w'.ownsRow w.heap.size 60 2 v (min len 15) (fewRow k s (min len 15)) ∧ Below w.heap.size w w' := by
  obtain ⟨ti, hi, hz0, hz1, hz2⟩ := info_parts info60
  have Hi := Lib.hid hi
  have Hz0 := Lib.hid hz0
  have Hz1 := Lib.hid hz1
  have Hz2 := Lib.hid hz2
  have HZ := Lib.hid hz
  clear hi hz0 hz1 hz2 hz
  go_enter Tryd.func46, Tryd.ntmps46
  go_wp2_with fail
  go_loopw [3, 4] (fun v i W => ∃ t : Nat, t ≤ min len 15 ∧ i = .int .i64 t ∧ W.ownsRow w.heap.size 60 2 v t (fewRow k s t) ∧ Below w.heap.size w W) (fun _ i _ => 15 - (intOf i).toNat)
  case atStart => exact ⟨0, by omega, rfl, World.ownsRow_nil _ _ _ _, Below.refl _ _⟩
  case round =>
    obtain ⟨t, ht, rfl, hrow, hbl⟩ := hrel
    by_cases hlt : t < len ∧ t < 15
    · obtain ⟨b, off, rfl, hb0, hc0, hc1, hsz⟩ := HZ.out t hlt.1
      have c0 := (hbl.cell (p := ⟨b, off + t * 2, none⟩) hb0).trans hc0
      have c1 := (hbl.cell (p := ⟨b, off + t * 2 + 1, none⟩) hb0).trans hc1
      have i0 : (t : Int) < (len : Int) := by omega
      have i1 : (t : Int) < 15 := by omega
      have Hrow := Lib.hid hrow
      have Hbl := Lib.hid hbl
      clear hrow hbl hc0 hc1
      have hcl := dcut_any (s t) hsz
      have hsu := fewRow_succ k s t
      have HSU := Lib.hid hsu
      clear hsu hsz
      generalize front (s t) 300 = fr at hcl HSU
      generalize s t = st at c1 hcl
      generalize k t = kt at c0 HSU
      have HCL := Lib.hid hcl
      clear hcl
      have hbw : b < wr.heap.size := Nat.lt_of_lt_of_le hb0 Hbl.out.size
      have hbs : w.heap.size ≤ wr.heap.size + 1 := by have := Hbl.out.size; omega
      have hn1 : t + 1 ≤ maxLen := by unfold maxLen; omega
      have hn2 : (t + 1) * 24 ≤ 140737488355328 := by omega
      go_wp2_with fail
      go_region_held3 (fun w' => w'.cell? ⟨b, off + t * 2, none⟩ = some (.int .i64 kt) ∧ w'.cell? ⟨b, off + t * 2 + 1, none⟩ = some (.string st)) (first | (with_reducible exact ⟨c0, c1⟩) | (with_reducible exact ⟨d0, d1⟩) | go_keep) (first
        | ((refine step_append_lies _ (by rfl) _ _ _ (by rfl) w.heap.size 60 ti _ 2 24 Tryd.underlying54 Hi.out Hz0.out Hz1.out Hz2.out rfl (by decide) u3 t (fewRow k s t) (by rfl) ((Hrow.out.alloc _).drew) ⟨wr.heap.size, 0, none⟩ 1 1 [.int .i64 kt, .string fr] (by rfl) (by rfl) (World.news_of_block (cs := #[.int .i64 kt, .string fr]) (t := 60) (fr := (0, 0)) (heap_alloc_new wr _)) (by simp [Value.oneCell']) (by decide) hn1 hn2 (by simpa using hbs) (wr.heap.size + 1) (by simp) ?_; intro gg cap w1 hown1 hgrow hat hlt1; have Hown1 := Lib.hid hown1; have Hgrow := Lib.hid hgrow; have Hlt1 := Lib.hid hlt1; have hfar := (((Far.refl (fun j => w.heap.size ≤ j) wr).alloc _).drew.grown hgrow (fun j e _ => (Hrow.out.lt j e).1)); have d0 := (hfar.cell (p := ⟨b, off + t * 2, none⟩) hbw (Nat.not_le_of_lt hb0)).trans c0; have d1 := (hfar.cell (p := ⟨b, off + t * 2 + 1, none⟩) hbw (Nat.not_le_of_lt hb0)).trans c1; clear hown1 hgrow hat hlt1 hfar))
        | (go_at_call 37; refine (HCL.out _).mono ?_; rintro e w' ⟨rfl, rfl⟩))
      all_goals go_wp2_with fail
      all_goals
        go_roundw
        case rel =>
          refine ⟨t + 1, by omega, by go_num, by rw [HSU.out]; exact Hown1.out, Hbl.out.trans ?_⟩
          exact (((Far.refl (fun j => w.heap.size ≤ j) wr).alloc _).drew.grown Hgrow.out (fun j e _ => (Hrow.out.lt j e).1)).to_below Hbl.out.size (fun i hi hc => by omega)
        case measure => simp [intOf]; omega
    · obtain rfl : t = min len 15 := by omega
      have Hrow := Lib.hid hrow
      have Hbl := Lib.hid hbl
      clear hrow hbl
      by_cases hl : len ≤ 15
      · have e : min len 15 = len := by omega
        rw [e] at Hrow ⊢
        have i0 : ¬ ((len : Int) < (len : Int)) := by omega
        go_wp2_with fail
        go_ret
        exact ⟨_, rfl, Hrow.out, Hbl.out⟩
      · have e : min len 15 = 15 := by omega
        rw [e] at Hrow ⊢
        have i0 : ((15 : Nat) : Int) < (len : Int) := by omega
        have i1 : ¬ (((15 : Nat) : Int) < 15) := by omega
        go_wp2_with fail
        go_ret
        exact ⟨_, rfl, Hrow.out, Hbl.out⟩
end Go.Proofs.YtfafidholldjlaaDoor
/- The law DigestPlays: what a call of it answers, for every list of calls. -/
set_option linter.unusedVariables false
set_option linter.unusedSimpArgs false
namespace Go.Proofs.YtfafidholldjlaaDoor
open Go.RowKit
theorem fewRow_kind (k : Nat → Int) (s : Nat → ByteArray) (n t : Nat) (h : t < n) : (fewRow k s n)[t * 2]? = some (.int .i64 (k t)) ∧ (fewRow k s n)[t * 2 + 1]? = some (.string (front (s t) 300)) := by
  induction n with
  | zero => omega
  | succ n ih =>
    rw [fewRow_succ]
    have hl := fewRow_length k s n
    by_cases hn : t < n
    · rw [List.getElem?_append_left (by omega), List.getElem?_append_left (by omega)]
      exact ih hn
    · obtain rfl : t = n := by omega
      rw [List.getElem?_append_right (by omega), List.getElem?_append_right (by omega), hl]
      have e1 : t * 2 - 2 * t = 0 := by omega
      have e2 : t * 2 + 1 - 2 * t = 1 := by omega
      rw [e1, e2]
      exact ⟨rfl, rfl⟩
theorem row_form {w : World} {base e size n : Nat} {v : Value} {xs : List Value} (h : w.ownsRow base e size v n xs) : ∃ p cap, v = .slice p n cap ∧ (0 < n → ∃ g, p = some ⟨g, 0, none⟩ ∧ base ≤ g ∧ g < w.heap.size ∧ ∀ j u, xs[j]? = some u → w.cell? ⟨g, j, none⟩ = some u) := by
  have h0 := h
  rcases h.2 with ⟨rfl, h1⟩ | ⟨g, cap, cur, rfl, hb, hgg, _⟩
  · exact ⟨none, 0, by rw [h1], fun hn => by omega⟩
  · refine ⟨_, _, rfl, fun _ => ⟨g, rfl, hb, lt_of_heap hgg, fun j u hj => ?_⟩⟩
    have := h0.cells (g := g) rfl j u hj
    have hadd : (⟨g, 0, none⟩ : Addr).add j = ⟨g, j, none⟩ := by unfold Addr.add; split <;> simp_all
    rwa [hadd] at this
/-- What is written to a cell that holds a text changes no hasher. -/
theorem HasherAt.beside {W W' : World} {x y : Nat} {m : List UInt8} {T : TypeId} {q : ByteArray} (hx : HasherAt W x m) (hy : W.heap[y]? = some (.cells #[.string q] T (0, 0))) (hne : x ≠ y) (hf : Far (· = y) W W') : HasherAt W' x m := by
  obtain ⟨v, r1, sp, cap, rfl, hp⟩ := hx
  refine ⟨_, hf.heap r1 hne, sp, cap, rfl, fun h0 => ?_⟩
  obtain ⟨g, o, e1, e2, e3, e4, e5⟩ := hp h0
  have hgy : g ≠ y := by
    intro e
    subst e
    obtain ⟨b, hb⟩ : ∃ b, (m.drop (64 * (m.length / 64)))[0]? = some b := ⟨_, List.getElem?_eq_getElem h0⟩
    have h5 := e5 0 (.int .u8 (b.toNat : Int)) (by simp only [byteCells, List.getElem?_map, hb, Option.map_some])
    rw [cell_of hy] at h5
    match o, h5 with
    | 0, h5 => simp at h5
    | o + 1, h5 => simp at h5
  exact ⟨g, o, e1, Nat.lt_of_lt_of_le e2 hf.size, e3, e4, fun j u hj => (hf.cell (p := ⟨g, o + j, none⟩) e2 hgy).trans (e5 j u hj)⟩
set_option maxRecDepth 100000 in
set_option maxHeartbeats 1000000 in
theorem plays_law (a : Option Addr) (len cap : Nat) (k : Nat → Int) (s : Nat → ByteArray) {B : Nat} {aw ab : Addr} {w : World} (hG : DGlob B aw ab w) (hK : RefK w) (hlen : len ≤ maxLen)
    (hz : ∀ i, i < len → ∃ b off, a = some ⟨b, off, none⟩ ∧ b < w.heap.size ∧ w.cell? ⟨b, off + i * 2, none⟩ = some (.int .i64 (k i)) ∧ w.cell? ⟨b, off + i * 2 + 1, none⟩ = some (.string (s i)) ∧ (s i).size ≤ maxLen ∧ -9223372036854775808 ≤ k i ∧ k i ≤ 9223372036854775807) :
    Calls Tryd.prog 14 #[.slice a len cap] w fun e w' => e = .returned (.bool true) ∧ Below w.heap.size w w' := by
  have HG := Lib.hid hG
  have HK := Lib.hid hK
  have HZ := Lib.hid hz
  have h1 : 1 < w.heap.size := by have := hG.four; omega
  clear hG hz hK
  go_enter Tryd.func14, Tryd.ntmps14
  go_wp2_with fail
  refine (dshown_any HG.out).mono ?_
  rintro e w1 ⟨rfl, hb1⟩
  have HB1 := Lib.hid hb1
  clear hb1
  go_wp2_with fail
  refine (few_any a len cap k s _ hlen (fun i hi => ?_)).mono ?_
  · obtain ⟨b, off, e, hb, c0, c1, hs, _⟩ := HZ.out i hi
    exact ⟨b, off, e, Nat.lt_of_lt_of_le hb HB1.out.size, (HB1.out.cell (p := ⟨b, off + i * 2, none⟩) hb).trans c0, (HB1.out.cell (p := ⟨b, off + i * 2 + 1, none⟩) hb).trans c1, hs⟩
  rintro e w2 ⟨v, rfl, hrow, hb2⟩
  obtain ⟨p, cp, rfl, hcl⟩ := row_form hrow
  have HB2 := Lib.hid (HB1.out.trans (hb2.mono HB1.out.size))
  obtain ⟨n, hn⟩ : ∃ n, min len 15 = n := ⟨_, rfl⟩
  rw [hn] at hcl ⊢
  have hn15 : n ≤ 15 := by omega
  have hnl : n ≤ len := by omega
  have HCL := Lib.hid hcl
  clear hrow hcl hb2 hn
  go_wp2_with fail
  refine (new_any _).mono ?_
  rintro e w3 ⟨h, rfl, hh, hr, hb3⟩
  have hbh : w2.heap.size ≤ h := hh
  have HN := Lib.hid (hasher_new hr)
  have HB3 := Lib.hid (HB2.out.trans (hb3.mono HB2.out.size))
  have HB23 := Lib.hid hb3
  have hlh := lt_of_heap hr
  clear hr hb3
  go_wp2_with fail
  obtain ⟨M, hM⟩ : ∃ M, w3.heap.size = M := ⟨_, rfl⟩
  have hm0 : (w3.alloc (.cells #[.string ⟨#[]⟩] 58)).heap[M]? = some (.cells #[.string ⟨#[]⟩] 58 (0, 0)) := alloc_heap_at _ _ _ hM.symm
  have hw4 : Below w3.heap.size w3 (w3.alloc (.cells #[.string ⟨#[]⟩] 58)) := (Below.refl _ _).alloc (Nat.le_refl _) _
  rw [hM]
  have hhM : h ≠ M := by omega
  generalize hw : w3.alloc (.cells #[.string ⟨#[]⟩] 58) = w4 at hm0 hw4 ⊢
  have HN4 := Lib.hid (HN.out.keep hw4)
  have HB4 := Lib.hid (HB3.out.trans (hw4.mono HB3.out.size))
  have HB24 := Lib.hid (HB23.out.trans (hw4.mono HB23.out.size))
  have HM0 := Lib.hid hm0
  have hbM : w2.heap.size ≤ M := by have := HB23.out.size; omega
  clear hm0 hw4 hw HN HB3 HB23
  go_loopw [6] (fun i W => ∃ (t : Nat) (m : ByteArray), t ≤ n ∧ i = .int .i64 t ∧ m.size ≤ 300 * t ∧ HasherAt W h m.data.toList ∧ W.heap[M]? = some (.cells #[.string m] 58 (0, 0)) ∧ Below w2.heap.size w2 W) (fun i _ => 15 - (intOf i).toNat)
  case atStart => exact ⟨0, ⟨#[]⟩, by omega, rfl, Nat.le_refl _, HN4.out, HM0.out, HB24.out⟩
  case round =>
    obtain ⟨t, m, ht, rfl, hms, hm, hmr, hbw⟩ := hrel
    have HM := Lib.hid hm
    have HR := Lib.hid hmr
    have HBW := Lib.hid hbw
    clear hm hmr hbw HN4 HM0
    by_cases hlt : t < n
    · obtain ⟨g, rfl, hg0, hg1, hcells⟩ := HCL.out (by omega)
      have hx0 := (HBW.out.cell (p := ⟨g, t * 2, none⟩) hg1).trans (hcells _ _ (fewRow_kind k s n t hlt).1)
      have hx1 := (HBW.out.cell (p := ⟨g, t * 2 + 1, none⟩) hg1).trans (hcells _ _ (fewRow_kind k s n t hlt).2)
      have hfr := front_300 (s t)
      have i0 : (t : Int) < (n : Int) := by omega
      have hms' : m.size ≤ 5000 := by omega
      generalize front (s t) 300 = fr at hx1 hfr
      generalize k t = kt at hx0
      clear hcells HCL HZ
      obtain ⟨X, hX⟩ : ∃ X, wr.heap.size = X := ⟨_, rfl⟩
      have hlt1 : h < X := by rw [← hX]; exact HM.out.lt
      have hlt2 : M < X := by rw [← hX]; exact lt_of_heap HR.out
      have hW0r : (wr.alloc (.cells #[.int .i64 kt, .string fr] 60)).heap[X]? = some (.cells #[.int .i64 kt, .string fr] 60 (0, 0)) := alloc_heap_at _ _ _ hX.symm
      have hW0b : Below wr.heap.size wr (wr.alloc (.cells #[.int .i64 kt, .string fr] 60)) := (Below.refl _ _).alloc (Nat.le_refl _) _
      have HM0 := Lib.hid (HM.out.keep hW0b)
      have HR0 := Lib.hid ((hW0b.block _ (lt_of_heap HR.out)).trans HR.out)
      have HBW0 := Lib.hid (HBW.out.trans (hW0b.mono HBW.out.size))
      clear hW0b
      by_cases k0 : kt = 0
      · subst k0
        go_wp2_with fail
        generalize wr.alloc (.cells #[.int .i64 0, .string fr] 60) = W0 at hW0r HM0 HR0 HBW0 ⊢
        have x0 : W0.cell? ⟨X, 1, none⟩ = some (.string fr) := cell_of hW0r 1
        have hX0 : X < W0.heap.size := lt_of_heap hW0r
        clear hx0 hx1 HM HR HBW hW0r hX
        have hgl : ∀ W, Below w2.heap.size w2 W → Glob B aw ab W := fun W hb => HG.out.glob.below ((HB2.out.mono HG.out.glob.size).trans (hb.mono (Nat.le_trans HG.out.glob.size HB2.out.size)))
        have hrk : ∀ W, Below w2.heap.size w2 W → RefK W ∧ 1 < W.heap.size := fun W hb => ⟨HK.out.below h1 h1 (HB2.out.trans (hb.mono HB2.out.size)), Nat.lt_of_lt_of_le h1 (Nat.le_trans HB2.out.size hb.size)⟩
        have hBh : B ≤ h := by have := HG.out.glob.size; have := HB2.out.size; omega
        go_region_held3 (fun w' => w'.cell? ⟨X, 1, none⟩ = some (.string fr)) (first | (with_reducible exact x2) | (with_reducible exact x1) | (with_reducible exact x0) | go_keep) (first
          | (go_at_call 47; refine (refWrite_ok M 58 m fr (by omega) HR1.out).mono ?_; rintro e wb ⟨rfl, hrb, hfb⟩; have x2 := (hfb.cell (p := ⟨X, 1, none⟩) (Nat.lt_of_lt_of_le hX1 (Nat.le_refl _)) (show ¬ X = M by omega)).trans x1; have HMb := Lib.hid (HM1.out.beside HR1.out hhM hfb); have HRb := Lib.hid hrb; have HBb := Lib.hid (HB1'.out.trans (hfb.to_below HB1'.out.size (by omega))); clear hrb hfb)
          | (go_at_call 43; refine (write_ok (w := W0.drew) (hgl _ HBW0.out.drew) h hBh m.data.toList fr (show HasherAt W0.drew h m.data.toList from HM0.out) (by show m.size + fr.size ≤ 100000; omega)).mono ?_; rintro e wa ⟨rfl, hma, hfa⟩; have x1 := (hfa.cell (p := ⟨X, 1, none⟩) hX0 (show ¬ X = h by omega)).trans x0; have hX1 : X < wa.heap.size := Nat.lt_of_lt_of_le hX0 hfa.size; have HM1 := Lib.hid hma; have HR1 := Lib.hid (hfa.heap (show W0.drew.heap[M]? = _ from HR0.out) (show ¬ M = h from fun e => hhM e.symm)); have HB1' := Lib.hid (HBW0.out.drew.trans (hfa.to_below HBW0.out.drew.size (by omega))); clear hma hfa))
        clear x0 x1 x2
        have HMx : Hid (HasherAt wb h (m ++ fr).data.toList) := Lib.hid (by rw [append_list]; exact HMb.out)
        have HRx : Hid (wb.heap[M]? = some (.cells #[.string (m ++ fr)] 58 (0, 0))) := Lib.hid (HRb.out)
        have HBx : Hid (Below w2.heap.size w2 wb) := Lib.hid (HBb.out)
        have cM := cell_of HRx.out 0
        have hlen : ∀ W, W = wb ∨ W = wb.drew → Calls Tryd.prog 45 #[.pointer (some ⟨h, 0, none⟩)] W fun e w' => e = .returned (.int .i64 ((m ++ fr).size : Int)) ∧ W = w' := by
          intro W hW
          obtain ⟨vz, rz, sz⟩ := HMx.out
          rcases hW with rfl | rfl
          · exact len_any h vz _ _ _ rz
          · exact len_any h vz _ _ wb.drew rz
        have HLEN := Lib.hid hlen
        clear hlen
        go_wp2_with fail
        go_region_held3 (fun w' => w'.cell? ⟨M, 0, none⟩ = some (.string (m ++ fr))) (first | (with_reducible exact cM) | go_keep) (first
          | (go_at_call 45; refine (HLEN.out _ (.inl rfl)).mono ?_; rintro e w9 ⟨rfl, rfl⟩)
          | (go_at_call 45; refine (HLEN.out _ (.inr rfl)).mono ?_; rintro e w9 ⟨rfl, rfl⟩))
        all_goals go_wp2_with fail
        all_goals
          go_roundw
          case rel =>
            first
              | exact ⟨t + 1, (m ++ fr), by omega, by go_num, by rw [ByteArray.size_append]; omega, HMx.out, HRx.out, HBx.out⟩
              | exact ⟨t + 1, (m ++ fr), by omega, by go_num, by rw [ByteArray.size_append]; omega, HMx.out, HRx.out, HBx.out.drew⟩
          case measure => simp [intOf]; omega
      · by_cases k1 : kt = 1
        · subst k1
          go_wp2_with fail
          generalize wr.alloc (.cells #[.int .i64 1, .string fr] 60) = W0 at hW0r HM0 HR0 HBW0 ⊢
          have x0 : W0.cell? ⟨X, 1, none⟩ = some (.string fr) := cell_of hW0r 1
          have hX0 : X < W0.heap.size := lt_of_heap hW0r
          clear hx0 hx1 HM HR HBW hW0r hX
          have hgl : ∀ W, Below w2.heap.size w2 W → Glob B aw ab W := fun W hb => HG.out.glob.below ((HB2.out.mono HG.out.glob.size).trans (hb.mono (Nat.le_trans HG.out.glob.size HB2.out.size)))
          have hrk : ∀ W, Below w2.heap.size w2 W → RefK W ∧ 1 < W.heap.size := fun W hb => ⟨HK.out.below h1 h1 (HB2.out.trans (hb.mono HB2.out.size)), Nat.lt_of_lt_of_le h1 (Nat.le_trans HB2.out.size hb.size)⟩
          have hBh : B ≤ h := by have := HG.out.glob.size; have := HB2.out.size; omega
          have hs1 : ∀ W, W = W0 ∨ W = W0.drew → Calls Tryd.prog 44 #[.pointer (some ⟨h, 0, none⟩)] W fun e w' => e = .returned (.string (shaBytes m.data.toList)) ∧ HasherAt w' h m.data.toList ∧ w'.heap[M]? = some (.cells #[.string m] 58 (0, 0)) ∧ Below w2.heap.size w2 w' := by
            intro W hW
            rcases hW with rfl | rfl
            · refine (hsum_any (hgl _ HBW0.out) h hBh _ HM0.out (by show m.size ≤ 100000; omega)).mono ?_
              rintro e w' ⟨he, hm', hf'⟩
              exact ⟨he, hm', hf'.heap HR0.out (show ¬ M = h from fun e => hhM e.symm), HBW0.out.trans (hf'.to_below HBW0.out.size (by omega))⟩
            · refine (hsum_any (w := W0.drew) (hgl _ HBW0.out.drew) h hBh m.data.toList (show HasherAt W0.drew h m.data.toList from HM0.out) (by show m.size ≤ 100000; omega)).mono ?_
              rintro e w' ⟨he, hm', hf'⟩
              exact ⟨he, hm', hf'.heap (show W0.drew.heap[M]? = _ from HR0.out) (show ¬ M = h from fun e => hhM e.symm), HBW0.out.drew.trans (hf'.to_below HBW0.out.drew.size (by omega))⟩
          have HS1 := Lib.hid hs1
          clear hs1 x0
          obtain ⟨bs, hbs⟩ : ∃ b, shaBytes m.data.toList = b := ⟨_, rfl⟩
          rw [hbs] at HS1
          have HBS := Lib.hid hbs
          clear hbs
          refine (HS1.out _ (.inl rfl)).mono ?_
          rintro e wa ⟨rfl, hma, hra, hba⟩
          have HM1 := Lib.hid hma
          have HR1 := Lib.hid hra
          have HB1' := Lib.hid hba
          clear hma hra hba
          go_wp2_with fail
          refine (refHSum_ok M 58 m (by omega) (hrk _ HB1'.out).1 (hrk _ HB1'.out).2 HR1.out).mono ?_
          rintro e wb ⟨rfl, hb⟩
          rw [HBS.out]
          have HMb := Lib.hid (HM1.out.keep hb)
          have HRb := Lib.hid ((hb.block _ (lt_of_heap HR1.out)).trans HR1.out)
          have HBb := Lib.hid (HB1'.out.trans (hb.mono HB1'.out.size))
          clear hb
          have HMx : Hid (HasherAt wb h m.data.toList) := Lib.hid (HMb.out)
          have HRx : Hid (wb.heap[M]? = some (.cells #[.string m] 58 (0, 0))) := Lib.hid (HRb.out)
          have HBx : Hid (Below w2.heap.size w2 wb) := Lib.hid (HBb.out)
          have cM := cell_of HRx.out 0
          have hlen : ∀ W, W = wb ∨ W = wb.drew → Calls Tryd.prog 45 #[.pointer (some ⟨h, 0, none⟩)] W fun e w' => e = .returned (.int .i64 (m.size : Int)) ∧ W = w' := by
            intro W hW
            obtain ⟨vz, rz, sz⟩ := HMx.out
            rcases hW with rfl | rfl
            · exact len_any h vz _ _ _ rz
            · exact len_any h vz _ _ wb.drew rz
          have HLEN := Lib.hid hlen
          clear hlen
          go_wp2_with fail
          go_region_held3 (fun w' => w'.cell? ⟨M, 0, none⟩ = some (.string m)) (first | (with_reducible exact cM) | go_keep) (first
            | (go_at_call 45; refine (HLEN.out _ (.inl rfl)).mono ?_; rintro e w9 ⟨rfl, rfl⟩)
            | (go_at_call 45; refine (HLEN.out _ (.inr rfl)).mono ?_; rintro e w9 ⟨rfl, rfl⟩))
          all_goals go_wp2_with fail
          all_goals
            go_roundw
            case rel =>
              first
                | exact ⟨t + 1, m, by omega, by go_num, by omega, HMx.out, HRx.out, HBx.out⟩
                | exact ⟨t + 1, m, by omega, by go_num, by omega, HMx.out, HRx.out, HBx.out.drew⟩
            case measure => simp [intOf]; omega
        · by_cases k2 : kt = 2
          · subst k2
            go_wp2_with fail
            generalize wr.alloc (.cells #[.int .i64 2, .string fr] 60) = W0 at hW0r HM0 HR0 HBW0 ⊢
            have x0 : W0.cell? ⟨X, 1, none⟩ = some (.string fr) := cell_of hW0r 1
            have hX0 : X < W0.heap.size := lt_of_heap hW0r
            clear hx0 hx1 HM HR HBW hW0r hX
            have hgl : ∀ W, Below w2.heap.size w2 W → Glob B aw ab W := fun W hb => HG.out.glob.below ((HB2.out.mono HG.out.glob.size).trans (hb.mono (Nat.le_trans HG.out.glob.size HB2.out.size)))
            have hrk : ∀ W, Below w2.heap.size w2 W → RefK W ∧ 1 < W.heap.size := fun W hb => ⟨HK.out.below h1 h1 (HB2.out.trans (hb.mono HB2.out.size)), Nat.lt_of_lt_of_le h1 (Nat.le_trans HB2.out.size hb.size)⟩
            have hBh : B ≤ h := by have := HG.out.glob.size; have := HB2.out.size; omega
            obtain ⟨vz, rz, sz⟩ := HM0.out
            refine (reset_any h vz _ _ W0 rz).mono ?_
            clear rz sz
            rintro e wa ⟨rfl, ra, hfa⟩
            have hra := hfa.heap HR0.out (show ¬ M = h from fun e => hhM e.symm)
            have y0 := cell_of hra 0
            have yf := frozen_of hra 0
            have HM1 := Lib.hid (hasher_new ra)
            have HR1 := Lib.hid hra
            have HB1' := Lib.hid (HBW0.out.trans (hfa.to_below HBW0.out.size (by omega)))
            clear ra hfa hra x0
            go_wp2_with fail
            have hfb : Far (· = M) wa (wa.setCell ⟨M, 0, none⟩ (.string ⟨#[]⟩)) := Far.setCell (D := (· = M)) (p := ⟨M, 0, none⟩) (Far.refl _ _) (fun _ => rfl) _
            have hrb : (wa.setCell ⟨M, 0, none⟩ (.string ⟨#[]⟩)).heap[M]? = some (.cells #[.string ⟨#[]⟩] 58 (0, 0)) := setCell_heap HR1.out 0 _
            generalize wa.setCell ⟨M, 0, none⟩ (.string ⟨#[]⟩) = wb at hfb hrb ⊢
            have HMb := Lib.hid (HM1.out.beside HR1.out hhM hfb)
            have HRb := Lib.hid hrb
            have HBb := Lib.hid (HB1'.out.trans (hfb.to_below HB1'.out.size (by omega)))
            clear y0 yf hfb hrb
            have HMx : Hid (HasherAt wb h (⟨#[]⟩ : ByteArray).data.toList) := Lib.hid (HMb.out)
            have HRx : Hid (wb.heap[M]? = some (.cells #[.string (⟨#[]⟩ : ByteArray)] 58 (0, 0))) := Lib.hid (HRb.out)
            have HBx : Hid (Below w2.heap.size w2 wb) := Lib.hid (HBb.out)
            have cM := cell_of HRx.out 0
            have hlen : ∀ W, W = wb ∨ W = wb.drew → Calls Tryd.prog 45 #[.pointer (some ⟨h, 0, none⟩)] W fun e w' => e = .returned (.int .i64 ((⟨#[]⟩ : ByteArray).size : Int)) ∧ W = w' := by
              intro W hW
              obtain ⟨vz, rz, sz⟩ := HMx.out
              rcases hW with rfl | rfl
              · exact len_any h vz _ _ _ rz
              · exact len_any h vz _ _ wb.drew rz
            have HLEN := Lib.hid hlen
            clear hlen
            go_wp2_with fail
            go_region_held3 (fun w' => w'.cell? ⟨M, 0, none⟩ = some (.string (⟨#[]⟩ : ByteArray))) (first | (with_reducible exact cM) | go_keep) (first
              | (go_at_call 45; refine (HLEN.out _ (.inl rfl)).mono ?_; rintro e w9 ⟨rfl, rfl⟩)
              | (go_at_call 45; refine (HLEN.out _ (.inr rfl)).mono ?_; rintro e w9 ⟨rfl, rfl⟩))
            all_goals go_wp2_with fail
            all_goals
              go_roundw
              case rel =>
                first
                  | exact ⟨t + 1, (⟨#[]⟩ : ByteArray), by omega, by go_num, Nat.zero_le _, HMx.out, HRx.out, HBx.out⟩
                  | exact ⟨t + 1, (⟨#[]⟩ : ByteArray), by omega, by go_num, Nat.zero_le _, HMx.out, HRx.out, HBx.out.drew⟩
              case measure => simp [intOf]; omega
          · by_cases k3 : kt = 3
            · subst k3
              go_wp2_with fail
              generalize wr.alloc (.cells #[.int .i64 3, .string fr] 60) = W0 at hW0r HM0 HR0 HBW0 ⊢
              have x0 : W0.cell? ⟨X, 1, none⟩ = some (.string fr) := cell_of hW0r 1
              have hX0 : X < W0.heap.size := lt_of_heap hW0r
              clear hx0 hx1 HM HR HBW hW0r hX
              have hgl : ∀ W, Below w2.heap.size w2 W → Glob B aw ab W := fun W hb => HG.out.glob.below ((HB2.out.mono HG.out.glob.size).trans (hb.mono (Nat.le_trans HG.out.glob.size HB2.out.size)))
              have hrk : ∀ W, Below w2.heap.size w2 W → RefK W ∧ 1 < W.heap.size := fun W hb => ⟨HK.out.below h1 h1 (HB2.out.trans (hb.mono HB2.out.size)), Nat.lt_of_lt_of_le h1 (Nat.le_trans HB2.out.size hb.size)⟩
              have hBh : B ≤ h := by have := HG.out.glob.size; have := HB2.out.size; omega
              obtain ⟨z, hz⟩ : ∃ z, zeroText 100001 = z := ⟨_, rfl⟩
              have hzs : z.size = 100001 := by rw [← hz]; exact zeroText_size _
              have HZ := Lib.hid hz
              have HZS := Lib.hid hzs
              clear hz hzs x0
              have hdg : ∀ W, Below w2.heap.size w2 W → DGlob B aw ab W := fun W hb => HG.out.below ((HB2.out.mono HG.out.glob.size).trans (hb.mono (Nat.le_trans HG.out.glob.size HB2.out.size)))
              refine (long_any _).mono ?_
              rintro e wa ⟨rfl, hb⟩
              rw [HZ.out]
              have HM1 := Lib.hid (HM0.out.keep hb)
              have HR1 := Lib.hid ((hb.block _ (lt_of_heap HR0.out)).trans HR0.out)
              have HB1' := Lib.hid (HBW0.out.trans (hb.mono HBW0.out.size))
              clear hb
              go_wp2_with fail
              refine (write_long h _ z HM1.out (by have := HZS.out; omega) (by have := HZS.out; omega) (by show m.size ≤ 1000000; omega) (hdg _ HB1'.out).et (hdg _ HB1'.out).four).mono ?_
              rintro e wc ⟨rfl, hmc, hb⟩
              have HM2 := Lib.hid hmc
              have HR2 := Lib.hid ((hb.block _ (lt_of_heap HR1.out)).trans HR1.out)
              have HB2' := Lib.hid (HB1'.out.trans (hb.mono HB1'.out.size))
              clear hb hmc
              go_wp2_with fail
              refine (long_any _).mono ?_
              rintro e wd ⟨rfl, hb⟩
              rw [HZ.out]
              have HM3 := Lib.hid (HM2.out.keep hb)
              have HR3 := Lib.hid ((hb.block _ (lt_of_heap HR2.out)).trans HR2.out)
              have HB3' := Lib.hid (HB2'.out.trans (hb.mono HB2'.out.size))
              clear hb
              go_wp2_with fail
              refine (refWrite_long M 58 m z (by have := HZS.out; omega) (by omega) (by have := HZS.out; omega) HR3.out).mono ?_
              rintro e wb ⟨rfl, rfl⟩
              have HMx : Hid (HasherAt wd h m.data.toList) := Lib.hid (HM3.out)
              have HRx : Hid (wd.heap[M]? = some (.cells #[.string m] 58 (0, 0))) := Lib.hid (HR3.out)
              have HBx : Hid (Below w2.heap.size w2 wd) := Lib.hid (HB3'.out)
              have cM := cell_of HRx.out 0
              have hlen : ∀ W, W = wd ∨ W = wd.drew → Calls Tryd.prog 45 #[.pointer (some ⟨h, 0, none⟩)] W fun e w' => e = .returned (.int .i64 (m.size : Int)) ∧ W = w' := by
                intro W hW
                obtain ⟨vz, rz, sz⟩ := HMx.out
                rcases hW with rfl | rfl
                · exact len_any h vz _ _ _ rz
                · exact len_any h vz _ _ wd.drew rz
              have HLEN := Lib.hid hlen
              clear hlen
              go_wp2_with fail
              go_region_held3 (fun w' => w'.cell? ⟨M, 0, none⟩ = some (.string m)) (first | (with_reducible exact cM) | go_keep) (first
                | (go_at_call 45; refine (HLEN.out _ (.inl rfl)).mono ?_; rintro e w9 ⟨rfl, rfl⟩)
                | (go_at_call 45; refine (HLEN.out _ (.inr rfl)).mono ?_; rintro e w9 ⟨rfl, rfl⟩))
              all_goals go_wp2_with fail
              all_goals
                go_roundw
                case rel =>
                  first
                    | exact ⟨t + 1, m, by omega, by go_num, by omega, HMx.out, HRx.out, HBx.out⟩
                    | exact ⟨t + 1, m, by omega, by go_num, by omega, HMx.out, HRx.out, HBx.out.drew⟩
                case measure => simp [intOf]; omega
            · have n0 : ¬ ((0 : Int) = kt) := fun e => k0 e.symm
              have n1 : ¬ ((1 : Int) = kt) := fun e => k1 e.symm
              have n2 : ¬ ((2 : Int) = kt) := fun e => k2 e.symm
              have n3 : ¬ ((3 : Int) = kt) := fun e => k3 e.symm
              go_wp2_with fail
              generalize wr.alloc (.cells #[.int .i64 kt, .string fr] 60) = W0 at hW0r HM0 HR0 HBW0 ⊢
              clear hx0 hx1 HM HR HBW hW0r hX
              have HMx : Hid (HasherAt W0 h m.data.toList) := Lib.hid (HM0.out)
              have HRx : Hid (W0.heap[M]? = some (.cells #[.string m] 58 (0, 0))) := Lib.hid (HR0.out)
              have HBx : Hid (Below w2.heap.size w2 W0) := Lib.hid (HBW0.out)
              have cM := cell_of HRx.out 0
              have hlen : ∀ W, W = W0 ∨ W = W0.drew → Calls Tryd.prog 45 #[.pointer (some ⟨h, 0, none⟩)] W fun e w' => e = .returned (.int .i64 (m.size : Int)) ∧ W = w' := by
                intro W hW
                obtain ⟨vz, rz, sz⟩ := HMx.out
                rcases hW with rfl | rfl
                · exact len_any h vz _ _ _ rz
                · exact len_any h vz _ _ W0.drew rz
              have HLEN := Lib.hid hlen
              clear hlen
              go_wp2_with fail
              go_region_held3 (fun w' => w'.cell? ⟨M, 0, none⟩ = some (.string m)) (first | (with_reducible exact cM) | go_keep) (first
                | (go_at_call 45; refine (HLEN.out _ (.inl rfl)).mono ?_; rintro e w9 ⟨rfl, rfl⟩)
                | (go_at_call 45; refine (HLEN.out _ (.inr rfl)).mono ?_; rintro e w9 ⟨rfl, rfl⟩))
              all_goals go_wp2_with fail
              all_goals
                go_roundw
                case rel =>
                  first
                    | exact ⟨t + 1, m, by omega, by go_num, by omega, HMx.out, HRx.out, HBx.out⟩
                    | exact ⟨t + 1, m, by omega, by go_num, by omega, HMx.out, HRx.out, HBx.out.drew⟩
                case measure => simp [intOf]; omega
    · obtain rfl : t = n := by omega
      have hgl : ∀ W, Below w2.heap.size w2 W → Glob B aw ab W := fun W hb => HG.out.glob.below ((HB2.out.mono HG.out.glob.size).trans (hb.mono (Nat.le_trans HG.out.glob.size HB2.out.size)))
      have hrk : ∀ W, Below w2.heap.size w2 W → RefK W ∧ 1 < W.heap.size := fun W hb => ⟨HK.out.below h1 h1 (HB2.out.trans (hb.mono HB2.out.size)), Nat.lt_of_lt_of_le h1 (Nat.le_trans HB2.out.size hb.size)⟩
      have hBh : B ≤ h := by have := HG.out.glob.size; have := HB2.out.size; omega
      have i0 : ¬ ((t : Int) < (t : Int)) := by omega
      obtain ⟨bs, hbs⟩ : ∃ b, shaBytes m.data.toList = b := ⟨_, rfl⟩
      have HBS := Lib.hid hbs
      clear hbs HZ HCL
      go_wp2_with fail
      refine (hsum_any (hgl _ HBW.out) h hBh _ HM.out (by show m.size ≤ 100000; omega)).mono ?_
      rintro e wa ⟨rfl, hma, hfa⟩
      rw [HBS.out]
      have HR1 := Lib.hid (hfa.heap HR.out (show ¬ M = h from fun e => hhM e.symm))
      have HB1' := Lib.hid (HBW.out.trans (hfa.to_below HBW.out.size (by omega)))
      clear hma hfa
      go_wp2_with fail
      refine (refHSum_ok M 58 m (by omega) (hrk _ HB1'.out).1 (hrk _ HB1'.out).2 HR1.out).mono ?_
      rintro e wb ⟨rfl, hb⟩
      rw [HBS.out]
      have HBb := Lib.hid (HB1'.out.trans (hb.mono HB1'.out.size))
      clear hb
      go_wp2_with fail
      go_ret
      exact ⟨rfl, HB2.out.trans (HBb.out.mono HB2.out.size)⟩
end Go.Proofs.YtfafidholldjlaaDoor
/- What a call leaves that has changed nothing old, whatever memory its arguments hold. -/
set_option linter.unusedVariables false
set_option linter.unusedSimpArgs false
namespace Go.Proofs.YtfafidholldjlaaDoor
open Go.ChangeShapes Go.WideShapes Go.ChangeAt Go.RowKit
theorem trodAll_carry {H : Type} {enc : TypeId × Value → H} {P : Program} {w w' : World} {base : Nat} {sp : Nat → Bool} {held : Bool} : ∀ {ts : List TypeId} {vs : List Value} {ds : List (DataW H)} {ps : List MemPlace},
    DataW.TrodAll enc P w base sp held ts vs ds ps → (∀ p ∈ ps, w.sameAt w' p) → DataW.TrodAll enc P w' base sp held ts vs ds ps
  | [], [], [], _, h, _ => h
  | _ :: _, _ :: _, _ :: _, _, ⟨p, q, ⟨n, h1⟩, h2, e⟩, hs =>
    ⟨p, q, ⟨n, DataW.trod_carry n _ _ _ h1 (fun x hx => hs x (by rw [e]; exact List.mem_append_left _ hx))⟩, trodAll_carry h2 (fun x hx => hs x (by rw [e]; exact List.mem_append_right _ hx)), e⟩
theorem prog_kids : Kids Tryd.prog (· < Tryd.prog.types.size) := kids_rows (by kernel_rfl) (by kernel_rfl)
theorem prog_full : ∀ t e, t < Tryd.prog.types.size → Tryd.prog.underlying t = some (.slice e) → 0 < Tryd.prog.cellsOf e := slices_full_of Tryd.prog (by kernel_rfl)
theorem post_below_any {H : Type} {enc : TypeId × Value → H} {P : Program} (hK : Kids P (· < P.types.size)) (hfull : ∀ t e, t < P.types.size → P.underlying t = some (.slice e) → 0 < P.cellsOf e) {f : Func} {s : ChangeSpec} {apart fresh handsOn again : Bool} {W W' : World} {args : Array Value} {v : Value} {ds : List (DataW H)} {before : List MemPlace}
    (hts : ∀ t ∈ f.params.toList, t < P.types.size) (hsv : s.vars = [])
    (hW : DataW.Whole enc P f.params.toList s.vars apart W args.toList ds [] before)
    (hres : ∀ (b : Nat) (sp : Nat → Bool) (hd : Bool), DataW.TrodAll enc P W' b sp hd f.resultTypes.toList (v.resultList f.resultTypes.size) (s.fn H (ds ++ [])).results [])
    (hargs : (s.fn H (ds ++ [])).args = ds) (hvars : (s.fn H (ds ++ [])).vars = [])
    (hb : Below W.heap.size W W')
    (hok : ∀ (j : Nat) (t : TypeId) (r : Value), f.resultTypes[j]? = some t → (v.resultList f.resultTypes.size)[j]? = some r → Value.okWide P W' .any 0 t r) :
    s.post enc P f apart fresh handsOn again W args v W' := by
  have hlt := hW.lt
  have hW0 := hW
  obtain ⟨p, q, hA, hV, hpq, hz, hn⟩ := hW
  have hV' := hV
  rw [hsv] at hV'
  have hq : q = [] := hV'
  subst hq
  rw [List.append_nil] at hpq
  subst hpq
  have hA' : DataW.TrodAll enc P W' 0 (fun _ => true) true f.params.toList args.toList ds before := trodAll_carry hA (fun x hx => hb.same (hlt x hx))
  have hA2 : ∀ sp : Nat → Bool, (∀ x ∈ before, sp x.block = true) → DataW.TrodAll enc P W' 0 sp true f.params.toList args.toList (s.fn H (ds ++ [])).args before := by
    intro sp hsp
    rw [hargs]
    exact DataW.TrodAll.respare hK hfull hts hA' hsp
  have hV2 : ∀ sp : Nat → Bool, DataW.TrodVars enc P W' sp s.vars (s.fn H (ds ++ [])).vars [] := by
    intro sp
    rw [hvars, hsv]
    show ([] : List MemPlace) = []
    rfl
  have hold : ∀ x ∈ before, (fun b => decide (b < W.heap.size)) x.block = true := fun x hx => by simpa using hlt x hx
  refine ⟨ds, [], before, [], before, [], hW0, hres _ _ _, hA2 _ hold, hV2 _, World.keptBut_mono (fun x hx => ⟨hx, .inr (.inl hx)⟩) (hb.frame (· ∈ before)), fun _ => ?_⟩
  refine ⟨hok, _, _, ([] ++ before) ++ [], ⟨[] ++ before, [], trodAll_append (hA2 _ (fun _ _ => rfl)) (hres _ _ _), hV2 _, rfl, ?_, ?_⟩, ?_⟩
  · intro b off hp
    have hp' : MemPlace.cell b off ∈ before := by simpa using hp
    rw [World.frozen?_of_block (w := W) (hb.block b (hlt _ hp'))]
    exact hz b off hp'
  · intro ha
    simpa using hn ha
  · intro x hx _
    simpa using hx
end Go.Proofs.YtfafidholldjlaaDoor
/- A list of numbers that came in, opened. -/
set_option linter.unusedVariables false
set_option linter.unusedSimpArgs false
namespace Go.Proofs.YtfafidholldjlaaDoor
open Go.ChangeShapes Go.WideShapes Go.ChangeAt Go.RowKit
theorem cell_lt {w : World} {a : Addr} {v : Value} (h : w.cell? a = some v) : a.block < w.heap.size := by
  by_cases hl : a.block < w.heap.size
  · exact hl
  · rw [World.cell?, Array.getElem?_eq_none (by omega)] at h
    cases h
theorem open_numbers {H : Type} {enc : TypeId × Value → H} {W : World} {base : Nat} {held : Bool} {fuel : Nat} {a : Option Addr} {len cap : Nat} {x : DataW H × List MemPlace}
    (hf : DataW.trod enc Tryd.prog W base (fun _ => true) held fuel 26 (Value.cells (.slice a len cap)).toList = some x) :
    ∃ z : Nat → Int, len ≤ maxLen ∧ ∀ i, i < len → ∃ b off, a = some ⟨b, off, none⟩ ∧ b < W.heap.size ∧ W.cell? ⟨b, off + i, none⟩ = some (.int .i64 (z i)) ∧ -9223372036854775808 ≤ z i ∧ z i ≤ 9223372036854775807 := by
  rcases open_ints Tryd.underlying26 Tryd.underlying3 cells3 hf with ⟨hcs, _⟩ | ⟨ad, len', cap', zs, hcs, _, hl, hm, hz, _, hcell, hwz⟩
  · simp [Value.cells] at hcs
    obtain ⟨rfl, rfl, rfl⟩ := hcs
    exact ⟨fun _ => 0, Nat.zero_le _, fun i hi => absurd hi (Nat.not_lt_zero i)⟩
  · simp [Value.cells] at hcs
    obtain ⟨rfl, rfl, rfl⟩ := hcs
    simp only [if_true] at hz
    refine ⟨fun i => zs.getD i 0, Nat.le_trans hl hm, fun i hi => ?_⟩
    obtain ⟨b, off, spot⟩ := ad
    have hc := hcell i (by omega)
    have hspot : spot = none := by simpa [Addr.add] using World.cell?_spot (hcell 0 (by omega))
    subst hspot
    rw [add_plain] at hc
    have hm' : zs.getD i 0 ∈ zs := by
      rw [List.getD_eq_getElem?_getD, List.getElem?_eq_getElem (by omega)]
      exact List.getElem_mem _
    have hb := bounds_i64 (hwz _ hm')
    exact ⟨b, off, rfl, cell_lt hc, hc, hb.1, hb.2⟩
end Go.Proofs.YtfafidholldjlaaDoor
/- A list of calls that came in, opened. -/
set_option linter.unusedVariables false
set_option linter.unusedSimpArgs false
namespace Go.Proofs.YtfafidholldjlaaDoor
open Go.ChangeShapes Go.WideShapes Go.ChangeAt Go.RowKit
theorem cells60 : Tryd.prog.cellsOf 60 = 2 := by kernel_rfl
theorem cellsText : Tryd.prog.cellsOf 9 = 1 := by kernel_rfl
def kindOf (v : Value) : Int := match v with
  | .int _ n => n
  | _ => 0
def textOf (v : Value) : ByteArray := match v with
  | .string s => s
  | _ => ⟨#[]⟩
theorem open_ops {H : Type} {enc : TypeId × Value → H} {W : World} {base : Nat} {held : Bool} {fuel : Nat} {a : Option Addr} {len cap : Nat} {x : DataW H × List MemPlace}
    (hf : DataW.trod enc Tryd.prog W base (fun _ => true) held fuel 54 (Value.cells (.slice a len cap)).toList = some x) :
    ∃ (k : Nat → Int) (s : Nat → ByteArray), len ≤ maxLen ∧ ∀ i, i < len → ∃ b off, a = some ⟨b, off, none⟩ ∧ b < W.heap.size ∧ W.cell? ⟨b, off + i * 2, none⟩ = some (.int .i64 (k i)) ∧ W.cell? ⟨b, off + i * 2 + 1, none⟩ = some (.string (s i)) ∧ (s i).size ≤ maxLen ∧ -9223372036854775808 ≤ k i ∧ k i ≤ 9223372036854775807 := by
  rcases Go.Deep.open_slice_pairs Tryd.underlying54 Tryd.underlying60 cells60 rfl rfl cells3 cellsText hf with ⟨hcs, _⟩ | ⟨ad, len', cap', m, n, V0, V1, D0, D1, P0, P1, hcs, _, hl, hm, hmm, _, hx⟩
  · simp [Value.cells] at hcs
    obtain ⟨rfl, rfl, rfl⟩ := hcs
    exact ⟨fun _ => 0, fun _ => ⟨#[]⟩, Nat.zero_le _, fun i hi => absurd hi (Nat.not_lt_zero i)⟩
  · simp [Value.cells] at hcs
    obtain ⟨rfl, rfl, rfl⟩ := hcs
    simp only [if_true] at hmm
    refine ⟨fun i => kindOf (V0 i), fun i => textOf (V1 i), Nat.le_trans hl hm, fun i hi => ?_⟩
    obtain ⟨b, off, spot⟩ := ad
    have hspot : spot = none := by
      have h0 := (hx 0 (by omega)).1
      simpa [Addr.add] using World.cell?_spot h0
    subst hspot
    obtain ⟨hc0, hc1, h0, h1⟩ := hx i (by omega)
    rw [add_plain] at hc0 hc1
    obtain ⟨z, hz1, _, hz2⟩ := DataW.trod_int Tryd.underlying3 h0
    obtain ⟨t, ht1, _, ht2⟩ := DataW.trod_string Tryd.underlying9 h1
    have e0 : V0 i = .int .i64 z := (List.cons.inj hz1).1
    have e1 : V1 i = .string t := (List.cons.inj ht1).1
    have hb := bounds_i64 hz2
    rw [e0] at hc0
    rw [e1] at hc1
    rw [← Nat.add_assoc] at hc1
    have ek : kindOf (V0 i) = z := by rw [e0]; rfl
    have et : textOf (V1 i) = t := by rw [e1]; rfl
    refine ⟨b, off, rfl, cell_lt hc0, ?_, ?_, ?_, ?_, ?_⟩
    · show _ = some (Value.int .i64 (kindOf (V0 i)))
      rw [ek]; exact hc0
    · show _ = some (Value.string (textOf (V1 i)))
      rw [et]; exact hc1
    · show (textOf (V1 i)).size ≤ maxLen
      rw [et]; exact ht2
    · show _ ≤ kindOf (V0 i)
      rw [ek]; exact hb.1
    · show kindOf (V0 i) ≤ _
      rw [ek]; exact hb.2
end Go.Proofs.YtfafidholldjlaaDoor
namespace Go.Proofs.YtfafidholldjlaaDoor.digestPlays
open Go.ChangeShapes Go.WideShapes Go.ChangeAt Go.RowKit
set_option maxRecDepth 100000 in
set_option maxHeartbeats 1000000 in
theorem contract (H : Type) (enc : TypeId × Value → H) (W : World) (base : Nat) (args : Array Value) (ds gs : List (DataW H)) (before : List MemPlace)
    (hval : ∀ (j : Nat) t v, Tryd.f14.params[j]? = some t → args[j]? = some v → Value.okWide Tryd.prog W .any base t v)
    (hW : DataW.Whole enc Tryd.prog Tryd.f14.params.toList Rows.digestPlaysSpec.vars false W args.toList ds gs before) (hL : laidMetH Tryd.prog Rows.digestPlaysRow.laid W) (hS : W.ShapedOpen Tryd.prog) :
    Calls Tryd.prog 14 args W fun e W' => ∃ v, e = .returned v ∧ Rows.digestPlaysSpec.post enc Tryd.prog Tryd.f14 false true false false W args v W' := by
  have hW' := hW
  obtain ⟨p, q, hA0, hV, rfl, hfz, hnd⟩ := hW
  have hA : DataW.TrodAll enc Tryd.prog W 0 (fun _ => true) true Tryd.f14.params.toList args.toList ds p := hA0
  rw [Tryd.params14] at hA hval
  obtain ⟨v0, vs0, d0, ds0, p0, q0, hargs, rfl, rfl, h0, r0⟩ := trodAll_cons hA
  obtain ⟨rfl, rfl, rfl⟩ := trodAll_nil r0
  obtain rfl : args = #[v0] := by cases args; simp_all
  obtain ⟨rfl, rfl⟩ := trodVars_none hV
  obtain ⟨a0, len0, cap0, rfl⟩ := okWide_slice Tryd.underlying54 (hval 0 54 v0 rfl rfl)
  obtain ⟨fuel0, hf0⟩ := h0
  obtain ⟨z0, t0, hlen0, hz0⟩ := open_ops hf0
  clear hA0
  simp only [List.append_nil] at hW'
  obtain ⟨aw, ab, hG, hK⟩ := dglobk_of hS hL
  have walk := plays_law a0 len0 cap0 z0 t0 hG hK hlen0 hz0
  refine walk.mono fun e W' ⟨he, hb⟩ => ?_
  subst he
  exact ⟨_, rfl, post_below_any (P := Tryd.prog) prog_kids prog_full (by rw [Tryd.params14, typesN]; decide) rfl hW' (fun _ _ _ => trodAll_cons_mk (shut_bool Tryd.underlying4 _) trodAll_mk0) rfl rfl hb (ok_one (by kernel_rfl) rfl (okWide_bool_mk Tryd.underlying4 _))⟩
theorem reads (os : Os) {H : Type} (enc : TypeId × Value → H) : ∃ places, DataW.whole enc Tryd.prog ((laidWorldE os).forCall (fun _ _ => 0) ⟨#[], #[.slice none 0 0], []⟩).memory Tryd.f14.params.toList Rows.digestPlaysSpec.vars false (#[.slice none 0 0] : Array Value).toList 8 = some ([.nil], [], places) :=
  ⟨[], by kernel_rfl⟩
set_option maxRecDepth 100000 in
theorem lifted (os : Os) (started : os.Started) (H : Type) (enc : TypeId × Value → H) (F : Stop.Interp) :
    ReturnsInHanded {} Tryd.checked os 14 .any ((OpenSpec.ofChange Rows.digestPlaysSpec).preRow enc Tryd.prog Tryd.f14 Rows.digestPlaysRow.domain false Rows.digestPlaysRow.laid) (((OpenSpec.ofChange Rows.digestPlaysSpec).at F).post enc Tryd.prog Tryd.f14 false true false false) := by
  obtain ⟨places, hx⟩ := reads os enc
  refine returnsInHanded_of_row (C := Tryd.checked) (s := OpenSpec.ofChange Rows.digestPlaysSpec) own started (by kernel_rfl) Tryd.func14
    (witness_row_atRef (enc := enc) (C := Tryd.checked) false (laidWorldE os) #[.slice none 0 0] rfl (by kernel_rfl) (by kernel_rfl) (by kernel_rfl)
      (OpenSpec.preRow_of_cond 8 hx (by kernel_rfl) (fun k hk => by cases hk) (by kernel_rfl) (laid_met_tells os _))) ?_
  intro W base args ds gs before hval hW _ _ _ hL hS _
  exact contract H enc W base args ds gs before hval hW hL hS
theorem facts : joinedFacts Tryd.prog 14 Tryd.f14 Rows.digestPlaysSpec Rows.digestPlaysRow = true := by
  unfold joinedFacts
  rw [may, lifts, make_cut]
  kernel_rfl
set_option maxRecDepth 100000 in
theorem said : Rows.DigestPlaysSaid :=
  OpenClaim.holds_of_cond 14 Tryd.f14 rfl rfl rfl rfl rfl rfl rfl ⟨rfl, rfl, rfl, rfl, rfl⟩ rfl rfl rfl rfl rfl (by kernel_rfl) Tryd.func14 facts
    (of_decide_eq_true (by kernel_rfl)) (by unfold Func.isWrapper; first | (rw [if_pos (by decide +kernel)]; kernel_rfl) | (rw [if_neg (by decide +kernel)]; exact ⟨rfl, rfl⟩))
    (fun os started H enc _ F => by rw [OpenClaim.pre_eq_preRow]; exact lifted os started H enc F)
theorem plain (f : FuncId) (fn : Func) (hf : Tryd.pinned.checked.prog.funcNamed "sigillary/sigillarylaw02.DigestPlays" = some f) (hfn : Tryd.pinned.checked.prog.funcs[f]? = some fn) :
    true = Tryd.pinned.checked.prog.looks [] ∧ ∀ (j : Nat) t, fn.params[j]? = some t → Tryd.pinned.checked.prog.wantsStandIn t = false := by
  obtain rfl : f = 14 := Option.some.inj ((show Tryd.prog.funcNamed "sigillary/sigillarylaw02.DigestPlays" = some 14 by kernel_rfl).symm.trans hf) |>.symm
  obtain rfl : fn = Tryd.f14 := (Option.some.inj (Tryd.func14.symm.trans hfn)).symm
  refine ⟨by kernel_rfl, fun j t ht => ?_⟩
  rw [Tryd.params14] at ht
  have hm : t = 54 := by
    have := Array.mem_of_getElem? ht
    simpa using this
  obtain rfl := hm
  · exact (show Tryd.prog.wantsStandIn 54 = false by kernel_rfl)
/-- ████ THE CARD ████ -/
theorem card : Rows.DigestPlaysCardSaid :=
  Claim7.holds_tied_plain_at .later [] _ _ _ _ said (fun _ h => by cases h) (by kernel_rfl) (fun _ h => by cases h) digestPlays_row_tie rfl ⟨rfl, rfl⟩ main_is rfl plain (by kernel_rfl)
end Go.Proofs.YtfafidholldjlaaDoor.digestPlays
