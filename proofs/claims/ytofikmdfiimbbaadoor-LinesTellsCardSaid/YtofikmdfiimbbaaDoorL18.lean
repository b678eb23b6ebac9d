/- The first forty lines. -/
import Derived.Test.YtofikmdfiimbbaaDoorL17
import Derived.Deep.AppendLies
import Derived.Deep.RegionHeld3
set_option linter.unusedVariables false
set_option linter.unusedSimpArgs false
namespace Go.Proofs.YtofikmdfiimbbaaDoor
open Go.RowKit
def fewLine (x : Ln.Line) : Ln.Line := ⟨x.no, x.ind, x.s.take 200⟩
def fewL (ls : List Ln.Line) : List Ln.Line := (ls.take 40).map fewLine
theorem fewL_len (ls : List Ln.Line) : (fewL ls).length = min ls.length 40 := by unfold fewL; simp; omega
theorem fewL_s (ls : List Ln.Line) : ∀ x ∈ fewL ls, x.s.length ≤ 200 := by
  intro x hx
  unfold fewL at hx
  obtain ⟨y, _, rfl⟩ := List.mem_map.1 hx
  unfold fewLine
  simp only [List.length_take]
  omega
set_option maxRecDepth 100000 in
set_option maxHeartbeats 2000000 in
theorem few_any (ls : List Ln.Line) (at0 : Option Addr) (g o len cap : Nat) (hn : ls.length = len) (hlen : len ≤ maxLen) (hz : ∀ x ∈ ls, x.s.length ≤ maxLen) (w : World) (hL : LA w at0 g o ls) :
    Calls Tryd.prog 11 #[.slice at0 len cap] w fun e w' => (∃ v, e = .returned v ∧ Lines w.heap.size v (fewL ls) w') ∧ Below w.heap.size w w' := by
  obtain ⟨ti, hi, hz0, hz1, hz2⟩ := info_parts info36
  have Hi := Lib.hid hi
  have Hz0 := Lib.hid hz0
  have Hz1 := Lib.hid hz1
  have Hz2 := Lib.hid hz2
  have HZ := Lib.hid hz
  have HL := Lib.hid hL
  have HN := Lib.hid hn
  clear hi hz0 hz1 hz2 hz hL hn
  have hfl := fewL_len ls
  rw [HN.out] at hfl
  have HFL := Lib.hid hfl
  clear hfl
  go_enter Tryd.func11, Tryd.ntmps11
  go_wp2_with fail
  go_loopw [3, 4] (fun v i W => ∃ t : Nat, t ≤ min len 40 ∧ i = .int .i64 t ∧ W.ownsRow w.heap.size 36 3 v t (lineCells ((ls.take t).map fewLine)) ∧ Below w.heap.size w W) (fun _ i _ => 40 - (Lib.intOf i).toNat)
  case atStart => exact ⟨0, by omega, rfl, World.ownsRow_nil _ _ _ _, Below.refl _ _⟩
  case round =>
    obtain ⟨t, ht, rfl, hrow, hbl⟩ := hrel
    by_cases hlt : t < len ∧ t < 40
    · obtain ⟨x, hx⟩ : ∃ x, ls[t]? = some x := ⟨_, List.getElem?_eq_getElem (by rw [HN.out]; exact hlt.1)⟩
      obtain ⟨ha, hb0, hc⟩ := HL.out (by intro e; rw [e] at hx; simp at hx)
      obtain ⟨hc0, hc1, hc2⟩ := hc t x hx
      have hsz := HZ.out x (List.mem_of_getElem? hx)
      have hsu : lineCells ((ls.take (t + 1)).map fewLine) = lineCells ((ls.take t).map fewLine) ++ lineCells [fewLine x] := by
        rw [List.take_add_one, hx, List.map_append, lineCells_append]
        rfl
      obtain ⟨no, ind, s⟩ := x
      simp only at hc0 hc1 hc2 hsz
      obtain ⟨S, hS⟩ : ∃ X : ByteArray, (⟨s.toArray⟩ : ByteArray) = X := ⟨_, rfl⟩
      have hSs : s = S.data.toList := by rw [← hS]
      rw [hS] at hc2
      subst hSs
      rw [text_size] at hsz
      have hmin : min (S.size : Int) 200 = ((min S.size 200 : Nat) : Int) := by omega
      have k0 : (0 : Int) ≤ ((min S.size 200 : Nat) : Int) := by omega
      have k1 : ((min S.size 200 : Nat) : Int) ≤ (S.size : Int) := by omega
      have hfr : lineCells [fewLine ⟨no, ind, S.data.toList⟩] = [.int .i64 no, .int .i64 ind, .string (S.extract 0 (min S.size 200))] := by
        have : (⟨(S.data.toList.take 200).toArray⟩ : ByteArray) = S.extract 0 (min S.size 200) := by
          apply ByteArray.ext
          apply Array.toList_inj.1
          rw [front_list, toList_mk]
          by_cases h2 : S.size ≤ 200
          · rw [Nat.min_eq_left h2, List.take_of_length_le (by rw [text_size]; exact h2), List.take_of_length_le (by rw [text_size]; exact Nat.le_refl _)]
          · rw [Nat.min_eq_right (by omega)]
        show [Value.int .i64 no, .int .i64 ind, .string ⟨(S.data.toList.take 200).toArray⟩] = _
        rw [this]
      rw [hfr] at hsu
      subst ha
      have hb : g < wr.heap.size := Nat.lt_of_lt_of_le hb0 hbl.size
      have c0 : wr.cell? ⟨g, o + t * 3, none⟩ = some (.int .i64 no) := (hbl.cell (p := ⟨g, o + t * 3, none⟩) hb0).trans hc0
      have c1 : wr.cell? ⟨g, o + t * 3 + 1, none⟩ = some (.int .i64 ind) := (hbl.cell (p := ⟨g, o + t * 3 + 1, none⟩) hb0).trans hc1
      have c2 : wr.cell? ⟨g, o + t * 3 + 2, none⟩ = some (.string S) := (hbl.cell (p := ⟨g, o + t * 3 + 2, none⟩) hb0).trans hc2
      have i0 : (t : Int) < (len : Int) := by omega
      have i1 : (t : Int) < 40 := by omega
      have vt : IntKind.i64.wrap ((t : Int) + 1) = (t : Int) + 1 := IntWalk.i64_in _ (by omega)
      have Hrow := Lib.hid hrow
      have Hbl := Lib.hid hbl
      have HSU := Lib.hid hsu
      clear hrow hbl hc0 hc1 hc2 hc hx hS hsu hfr
      have hbs : w.heap.size ≤ wr.heap.size + 1 := by have := Hbl.out.size; omega
      have hn1 : t + 1 ≤ maxLen := by unfold maxLen; omega
      have hn2 : (t + 1) * 32 ≤ 140737488355328 := by omega
      go_wp2_with fail
      go_region_held3 (fun w' => w'.cell? ⟨g, o + t * 3, none⟩ = some (.int .i64 no) ∧ w'.cell? ⟨g, o + t * 3 + 1, none⟩ = some (.int .i64 ind) ∧ w'.cell? ⟨g, o + t * 3 + 2, none⟩ = some (.string S)) (first | (with_reducible exact ⟨c0, c1, c2⟩) | (with_reducible exact ⟨d0, d1, d2⟩) | go_keep) (first
        | ((refine step_append_lies _ (by rfl) _ _ _ (by rfl) w.heap.size 36 ti _ 3 32 Tryd.underlying22 Hi.out Hz0.out Hz1.out Hz2.out rfl (by decide) u3 t (lineCells ((ls.take t).map fewLine)) (by rfl) ((Hrow.out.alloc _).drew) ⟨wr.heap.size, 0, none⟩ 1 1 [.int .i64 no, .int .i64 ind, .string (S.extract 0 (min S.size 200))] (by rfl) (by rfl) (World.news_of_block (cs := #[.int .i64 no, .int .i64 ind, .string (S.extract 0 (min S.size 200))]) (t := 36) (fr := (0, 0)) (heap_alloc_new wr _)) (by simp [Value.oneCell']) (by decide) hn1 hn2 (by simpa using hbs) (wr.heap.size + 1) (by simp) ?_; intro gg cap w1 hown1 hgrow hat hlt1; have Hown1 := Lib.hid hown1; have Hgrow := Lib.hid hgrow; have Hlt1 := Lib.hid hlt1; have hfar := (((Far.refl (fun j => w.heap.size ≤ j) wr).alloc _).drew.grown hgrow (fun j e _ => (Hrow.out.lt j e).1)); have d0 := (hfar.cell (p := ⟨g, o + t * 3, none⟩) hb (Nat.not_le_of_lt hb0)).trans c0; have d1 := (hfar.cell (p := ⟨g, o + t * 3 + 1, none⟩) hb (Nat.not_le_of_lt hb0)).trans c1; have d2 := (hfar.cell (p := ⟨g, o + t * 3 + 2, none⟩) hb (Nat.not_le_of_lt hb0)).trans c2; clear hown1 hgrow hat hlt1 hfar)))
      all_goals go_wp2_with fail
      all_goals
        go_roundw
        case rel =>
          refine ⟨t + 1, by omega, by simp, by rw [HSU.out]; exact Hown1.out, Hbl.out.trans ?_⟩
          exact (((Far.refl (fun j => w.heap.size ≤ j) wr).alloc _).drew.grown Hgrow.out (fun j e _ => (Hrow.out.lt j e).1)).to_below Hbl.out.size (fun i hi hc => by omega)
        case measure => simp [Lib.intOf]; omega
    · obtain rfl : t = min len 40 := by omega
      have hfin : fewL ls = (ls.take (min len 40)).map fewLine := by
        unfold fewL
        rw [← HN.out]
        congr 1
        by_cases h : ls.length ≤ 40
        · rw [Nat.min_eq_left h, List.take_length, List.take_of_length_le h]
        · rw [Nat.min_eq_right (by omega)]
      have hpost : ∀ v, wr.ownsRow w.heap.size 36 3 v (min len 40) (lineCells ((ls.take (min len 40)).map fewLine)) → Lines w.heap.size v (fewL ls) wr := by
        intro v h
        unfold Lines
        rw [HFL.out, hfin]
        exact h
      have HP := Lib.hid (hpost _ hrow)
      have Hbl := Lib.hid hbl
      clear hrow hbl hpost hfin
      by_cases hl : len ≤ 40
      · have e : min len 40 = len := by omega
        rw [e]
        have i0 : ¬ ((len : Int) < (len : Int)) := by omega
        go_wp2_with fail
        go_ret
        exact ⟨⟨_, rfl, HP.out⟩, Hbl.out⟩
      · have e : min len 40 = 40 := by omega
        rw [e]
        have i0 : ((40 : Nat) : Int) < (len : Int) := by omega
        have i1 : ¬ (((40 : Nat) : Int) < 40) := by omega
        go_wp2_with fail
        go_ret
        exact ⟨⟨_, rfl, HP.out⟩, Hbl.out⟩
end Go.Proofs.YtofikmdfiimbbaaDoor
