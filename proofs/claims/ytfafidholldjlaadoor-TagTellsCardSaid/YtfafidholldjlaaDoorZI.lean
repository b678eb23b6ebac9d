/- Bytes taken in: eat. -/
import Derived.Test.YtfafidholldjlaaDoorZH
import Derived.Test.YtfafidholldjlaaDoorZB
import Derived.Stop.RegionWithIn
set_option linter.unusedVariables false
set_option linter.unusedSimpArgs false
namespace Go.Proofs.YtfafidholldjlaaDoor
open Go.RowKit
attribute [local go_sem] Oper.semAt_some
attribute [local go_sem ↓] Go.wp_at_zero Go.wp_at_succ
theorem enters99 (args : Array Value) (w : World) : (callFunc 99 args).run Tryd.prog w = .ok (.enter 99 args) w := by kernel_rfl
theorem blocks_any (h : Nat) (w : World) : Calls Tryd.prog 87 #[.pointer (some ⟨h, 0, none⟩)] w fun e w' => e = .returned (.func (.func 99) #[] #[.pointer (some ⟨w.heap.size, 0, none⟩)]) ∧ w' = w.alloc (.cells #[.pointer (some ⟨h, 0, none⟩)] 145) := by
  go_enter Tryd.func87, Tryd.ntmps87
  go_wp2_with fail
  go_ret
  exact ⟨rfl, rfl⟩
theorem block_byte (r : List UInt8) (t i : Nat) (hi : i < 64) : byteAt ⟨((r.drop (64 * t)).take 64).toArray⟩ i = Sha.byteOf r (64 * t + i) := by
  unfold byteAt Sha.byteOf
  simp only [List.getD_eq_getElem?_getD]
  rw [List.getElem?_take, if_pos hi, List.getElem?_drop]
theorem block_size (r : List UInt8) (t : Nat) (ht : t < r.length / 64) : (⟨((r.drop (64 * t)).take 64).toArray⟩ : ByteArray).size = 64 := by
  show ((r.drop (64 * t)).take 64).toArray.size = 64
  simp
  omega
theorem after_step (s : Sha.St) (r : List UInt8) (t : Nat) : (s.after r t).compress (byteAt ⟨((r.drop (64 * t)).take 64).toArray⟩) = s.after r (t + 1) := Sha.St.compress_congr _ (fun i hi => block_byte r t i hi)
theorem blocks_iter (h bb B : Nat) (r : List UInt8) (hrl : r.length ≤ 800000) (w : World) (hbb : w.heap[bb]? = some (.cells #[.pointer (some ⟨h, 0, none⟩)] 145 (0, 0))) (v : Value) (s : Sha.St) (n : Int) (hh : w.heap[h]? = some (.cells (hrow v s n) 93 (0, 0))) (hne : bb ≠ h) (hbB : bb < B) (hB : B ≤ w.heap.size) (hv : RestB B w h v r) (hhB : h < B) :
    Iter2 false Tryd.prog 99 #[.pointer (some ⟨bb, 0, none⟩)] 3 (r.length / 64) (fun t => #[.string ⟨((r.drop (64 * t)).take 64).toArray⟩]) (ItR h) (ItS h B) (RestAt h B n (r.drop (64 * (r.length / 64)))) w := by
  intro l J Jx W1 hb hJ _ hX hY h0
  refine (blocks_calls l h bb B r hrl J hJ ?_ W1 ((hb.block _ (by omega)).trans hbb) v s n ((hb.block _ (by omega)).trans hh) hne hbB (hv.far (Far.of_below hb (fun _ => False)) (fun _ _ _ hc => hc)) h0).mono ?_
  · intro t ht W hJt
    obtain ⟨fn, tmps, assign, body, hy, hR⟩ := hY t ht W hJt
    refine ⟨fn, tmps, assign, body, hy, hR.mono ?_⟩
    rintro e W' (⟨he, hj, hf⟩ | ⟨_, hx⟩)
    · exact ⟨he, hj, hf⟩
    · exact absurd hx (hX rfl W')
  · rintro e W' ⟨rfl, hj, hf⟩
    exact ⟨⟨_, rfl⟩, .inl ⟨hj, hf⟩⟩
theorem store_state (W : World) (h : Nat) (v : Value) (s U : Sha.St) (n : Int) (hh : W.heap[h]? = some (.cells (hrow v s n) 93 (0, 0))) :
    ((((((((W.setCell ⟨h, 1, none⟩ (.int .i64 U.a)).setCell ⟨h, 2, none⟩ (.int .i64 U.b)).setCell ⟨h, 3, none⟩ (.int .i64 U.c)).setCell ⟨h, 4, none⟩ (.int .i64 U.d)).setCell ⟨h, 5, none⟩ (.int .i64 U.e)).setCell ⟨h, 6, none⟩ (.int .i64 U.f)).setCell ⟨h, 7, none⟩ (.int .i64 U.g)).setCell ⟨h, 8, none⟩ (.int .i64 U.h)).heap[h]? = some (.cells (hrow v U n) 93 (0, 0)) := by
  have g1 : (W.setCell ⟨h, 1, none⟩ (.int .i64 U.a)).heap[h]? = some (.cells #[v, .int .i64 U.a, .int .i64 s.b, .int .i64 s.c, .int .i64 s.d, .int .i64 s.e, .int .i64 s.f, .int .i64 s.g, .int .i64 s.h, .int .i64 n] 93 (0, 0)) := setCell_heap hh 1 (.int .i64 U.a)
  have g2 : ((W.setCell ⟨h, 1, none⟩ (.int .i64 U.a)).setCell ⟨h, 2, none⟩ (.int .i64 U.b)).heap[h]? = some (.cells #[v, .int .i64 U.a, .int .i64 U.b, .int .i64 s.c, .int .i64 s.d, .int .i64 s.e, .int .i64 s.f, .int .i64 s.g, .int .i64 s.h, .int .i64 n] 93 (0, 0)) := setCell_heap g1 2 (.int .i64 U.b)
  have g3 : (((W.setCell ⟨h, 1, none⟩ (.int .i64 U.a)).setCell ⟨h, 2, none⟩ (.int .i64 U.b)).setCell ⟨h, 3, none⟩ (.int .i64 U.c)).heap[h]? = some (.cells #[v, .int .i64 U.a, .int .i64 U.b, .int .i64 U.c, .int .i64 s.d, .int .i64 s.e, .int .i64 s.f, .int .i64 s.g, .int .i64 s.h, .int .i64 n] 93 (0, 0)) := setCell_heap g2 3 (.int .i64 U.c)
  have g4 : ((((W.setCell ⟨h, 1, none⟩ (.int .i64 U.a)).setCell ⟨h, 2, none⟩ (.int .i64 U.b)).setCell ⟨h, 3, none⟩ (.int .i64 U.c)).setCell ⟨h, 4, none⟩ (.int .i64 U.d)).heap[h]? = some (.cells #[v, .int .i64 U.a, .int .i64 U.b, .int .i64 U.c, .int .i64 U.d, .int .i64 s.e, .int .i64 s.f, .int .i64 s.g, .int .i64 s.h, .int .i64 n] 93 (0, 0)) := setCell_heap g3 4 (.int .i64 U.d)
  have g5 : (((((W.setCell ⟨h, 1, none⟩ (.int .i64 U.a)).setCell ⟨h, 2, none⟩ (.int .i64 U.b)).setCell ⟨h, 3, none⟩ (.int .i64 U.c)).setCell ⟨h, 4, none⟩ (.int .i64 U.d)).setCell ⟨h, 5, none⟩ (.int .i64 U.e)).heap[h]? = some (.cells #[v, .int .i64 U.a, .int .i64 U.b, .int .i64 U.c, .int .i64 U.d, .int .i64 U.e, .int .i64 s.f, .int .i64 s.g, .int .i64 s.h, .int .i64 n] 93 (0, 0)) := setCell_heap g4 5 (.int .i64 U.e)
  have g6 : ((((((W.setCell ⟨h, 1, none⟩ (.int .i64 U.a)).setCell ⟨h, 2, none⟩ (.int .i64 U.b)).setCell ⟨h, 3, none⟩ (.int .i64 U.c)).setCell ⟨h, 4, none⟩ (.int .i64 U.d)).setCell ⟨h, 5, none⟩ (.int .i64 U.e)).setCell ⟨h, 6, none⟩ (.int .i64 U.f)).heap[h]? = some (.cells #[v, .int .i64 U.a, .int .i64 U.b, .int .i64 U.c, .int .i64 U.d, .int .i64 U.e, .int .i64 U.f, .int .i64 s.g, .int .i64 s.h, .int .i64 n] 93 (0, 0)) := setCell_heap g5 6 (.int .i64 U.f)
  have g7 : (((((((W.setCell ⟨h, 1, none⟩ (.int .i64 U.a)).setCell ⟨h, 2, none⟩ (.int .i64 U.b)).setCell ⟨h, 3, none⟩ (.int .i64 U.c)).setCell ⟨h, 4, none⟩ (.int .i64 U.d)).setCell ⟨h, 5, none⟩ (.int .i64 U.e)).setCell ⟨h, 6, none⟩ (.int .i64 U.f)).setCell ⟨h, 7, none⟩ (.int .i64 U.g)).heap[h]? = some (.cells #[v, .int .i64 U.a, .int .i64 U.b, .int .i64 U.c, .int .i64 U.d, .int .i64 U.e, .int .i64 U.f, .int .i64 U.g, .int .i64 s.h, .int .i64 n] 93 (0, 0)) := setCell_heap g6 7 (.int .i64 U.g)
  have g8 : ((((((((W.setCell ⟨h, 1, none⟩ (.int .i64 U.a)).setCell ⟨h, 2, none⟩ (.int .i64 U.b)).setCell ⟨h, 3, none⟩ (.int .i64 U.c)).setCell ⟨h, 4, none⟩ (.int .i64 U.d)).setCell ⟨h, 5, none⟩ (.int .i64 U.e)).setCell ⟨h, 6, none⟩ (.int .i64 U.f)).setCell ⟨h, 7, none⟩ (.int .i64 U.g)).setCell ⟨h, 8, none⟩ (.int .i64 U.h)).heap[h]? = some (.cells #[v, .int .i64 U.a, .int .i64 U.b, .int .i64 U.c, .int .i64 U.d, .int .i64 U.e, .int .i64 U.f, .int .i64 U.g, .int .i64 U.h, .int .i64 n] 93 (0, 0)) := setCell_heap g7 8 (.int .i64 U.h)
  exact g8
theorem far_state (D : Nat → Prop) (W0 W : World) (h : Nat) (U : Sha.St) (hf : Far D W0 W) (hD : h < W0.heap.size → D h) : Far D W0 ((((((((W.setCell ⟨h, 1, none⟩ (.int .i64 U.a)).setCell ⟨h, 2, none⟩ (.int .i64 U.b)).setCell ⟨h, 3, none⟩ (.int .i64 U.c)).setCell ⟨h, 4, none⟩ (.int .i64 U.d)).setCell ⟨h, 5, none⟩ (.int .i64 U.e)).setCell ⟨h, 6, none⟩ (.int .i64 U.f)).setCell ⟨h, 7, none⟩ (.int .i64 U.g)).setCell ⟨h, 8, none⟩ (.int .i64 U.h)) :=
  Far.setCell (p := ⟨h, 8, none⟩) (Far.setCell (p := ⟨h, 7, none⟩) (Far.setCell (p := ⟨h, 6, none⟩) (Far.setCell (p := ⟨h, 5, none⟩) (Far.setCell (p := ⟨h, 4, none⟩) (Far.setCell (p := ⟨h, 3, none⟩) (Far.setCell (p := ⟨h, 2, none⟩) (Far.setCell (p := ⟨h, 1, none⟩) (hf) hD _) hD _) hD _) hD _) hD _) hD _) hD _) hD _
theorem results74 (tmps : Array Value) (w : World) : (results Tryd.f74 tmps).run Tryd.prog w = .ok (.tuple #[]) w := by simp [results, Tryd.results74, go_sem]
set_option maxRecDepth 100000 in
set_option maxHeartbeats 16000000 in
theorem eat_any {B : Nat} {aw ab : Addr} {w : World} (hG : Glob B aw ab w) (h : Nat) (hBh : B ≤ h) (v : Value) (s : Sha.St) (hs : s.ok) (n : Int) (r : List UInt8) (m : ByteArray)
    (hh : w.heap[h]? = some (.cells (hrow v s n) 93 (0, 0))) (hv : Rest w h v r) (hrl : r.length ≤ 400000) (hml : m.size ≤ 400000) :
    Calls Tryd.prog 74 #[.pointer (some ⟨h, 0, none⟩), .string m] w fun e w' => e = .returned (.tuple #[]) ∧
      ∃ v', w'.heap[h]? = some (.cells (hrow v' (s.after (r ++ m.data.toList) ((r.length + m.size) / 64)) n) 93 (0, 0)) ∧ Rest w' h v' ((r ++ m.data.toList).drop (64 * ((r.length + m.size) / 64))) ∧ Far (· = h) w w' := by
  have HG := Lib.hid hG
  have Hs := Lib.hid hs
  have hl := lt_of_heap hh
  have HH := Lib.hid hh
  have HV := Lib.hid hv
  clear hG hs hh hv
  refine callsIn_wide.1 (callsIn_of_wp_marks (n := 5) Tryd.func74 rfl trivial (wpIn_wide.2 ?_))
  simp only [Tryd.ntmps74, List.size_toArray, List.length_cons, List.length_nil, Nat.reduceAdd, Nat.reduceSub, Array.replicate_succ, Array.replicate_zero, List.push_toArray, List.append_toArray, List.nil_append, List.cons_append]
  obtain ⟨C, hC⟩ : ∃ C, grownCap (w.alloc (.cells #[.pointer (some ⟨h, 0, none⟩)] 46)) m.size 0 5 = C := ⟨_, rfl⟩
  have hcv := run_bytes_of_string (P := Tryd.prog) (w.alloc (.cells #[.pointer (some ⟨h, 0, none⟩)] 46)) 9 40 5 m Tryd.underlying9 Tryd.underlying40 Tryd.underlying5
  rw [hC] at hcv
  obtain ⟨Wc, hWc⟩ : ∃ Wc, (w.alloc (.cells #[.pointer (some ⟨h, 0, none⟩)] 46)).drew.alloc (.cells (bytesRow m C) 5 ((bytesRow m C).size, (bytesRow m C).size + 1)) = Wc := ⟨_, rfl⟩
  rw [hWc] at hcv
  have HWC := Lib.hid hWc
  clear hWc hC
  have hlw : (w.alloc (.cells #[.pointer (some ⟨h, 0, none⟩)] 46)).heap.size = w.heap.size + 1 := by simp
  rw [hlw] at hcv
  clear hlw
  have hf1 : Far (· = h) w Wc := by rw [← HWC.out]; exact (((Far.refl _ _).alloc _).drew).alloc _
  have hhc := hf1.block w.heap.size
  have hbx : Wc.heap[w.heap.size]? = some (.cells #[.pointer (some ⟨h, 0, none⟩)] 46 (0, 0)) := by rw [← HWC.out]; exact alloc_heap_old _ (alloc_heap_at w _ _ rfl)
  have hhr : Wc.heap[h]? = some (.cells (hrow v s n) 93 (0, 0)) := by rw [← HWC.out]; exact alloc_heap_old _ (alloc_heap_old _ HH.out)
  have hq : 0 < m.data.toList.length → ∃ gl, some (⟨w.heap.size + 1, 0, none⟩ : Addr) = some ⟨gl, 0, none⟩ ∧ gl < Wc.heap.size ∧ ∀ j u, (byteCells m.data.toList)[j]? = some u → Wc.cell? ⟨gl, j, none⟩ = some u := by
    intro h0
    refine ⟨w.heap.size + 1, rfl, by rw [← HWC.out]; simp, fun j u hj => ?_⟩
    have hj' : j < m.data.size := by
      have := (List.getElem?_eq_some_iff.1 hj).1
      simpa [byteCells] using this
    have hb := bytesRow_at m C j hj'
    have hu : u = .int .u8 (m.data[j].toNat : Int) := by
      simp only [byteCells, List.getElem?_map, Array.getElem?_toList, Array.getElem?_eq_getElem hj', Option.map_some, Option.some.injEq] at hj
      exact hj.symm
    rw [hu, ← hb, ← HWC.out]
    have hcm := World.cell?_alloc_mark (w.alloc (.cells #[.pointer (some ⟨h, 0, none⟩)] 46)).drew (bytesRow m C) 5 ((bytesRow m C).size, (bytesRow m C).size + 1) j
    have hsz : (w.alloc (.cells #[.pointer (some ⟨h, 0, none⟩)] 46)).drew.heap.size = w.heap.size + 1 := by simp
    rw [hsz] at hcm
    exact hcm
  have hput := put_any h v s n r (some ⟨w.heap.size + 1, 0, none⟩) C m.data.toList Wc hhr (HV.out.far hf1) hrl (by exact hml) hq
  have hql : m.data.toList.length = m.size := rfl
  rw [hql] at hput
  have HPUT := Lib.hid hput
  have HBX := Lib.hid hbx
  have HF1 := Lib.hid hf1
  obtain ⟨rr, hrr⟩ : ∃ rr, r ++ m.data.toList = rr := ⟨_, rfl⟩
  have hrrl : rr.length = r.length + m.size := by rw [← hrr, List.length_append]; rfl
  rw [hrr, ← hrrl]
  rw [hrr] at HPUT
  have HRL := Lib.hid hrrl
  clear hput hbx hf1 hhc hhr hq hql hrr hrrl
  go_wp2_with fail
  refine (HPUT.out).mono ?_
  rintro e W2 ⟨rfl, v2, hrow2, ⟨g2, rfl⟩, hrest2, hfar2⟩
  have hbx2 := hfar2.heap HBX.out (by omega)
  have cbx := cell_of hbx2 0
  have HROW2 := Lib.hid hrow2
  have HREST2 := Lib.hid hrest2
  have HFAR2 := Lib.hid hfar2
  have HBX2 := Lib.hid hbx2
  clear hrow2 hrest2 hfar2 hbx2 hcv HPUT
  go_wp2_with fail
  refine (blocks_any h _).mono ?_
  rintro e W3 ⟨rfl, hW3⟩
  have hbb3 : W3.heap[W2.heap.size]? = some (.cells #[.pointer (some ⟨h, 0, none⟩)] 145 (0, 0)) := by rw [hW3]; exact alloc_heap_at _ _ _ rfl
  have hf3 : Far (· = h) w W3 := by rw [hW3]; exact (HF1.out.trans HFAR2.out).alloc _
  have hrow3 := alloc_heap_old (.cells #[.pointer (some ⟨h, 0, none⟩)] 145) HROW2.out
  rw [← hW3] at hrow3
  have hbx3 := alloc_heap_old (.cells #[.pointer (some ⟨h, 0, none⟩)] 145) HBX2.out
  rw [← hW3] at hbx3
  have hs3 : W3.heap.size = W2.heap.size + 1 := by rw [hW3]; simp
  have hl2 : h < W2.heap.size := lt_of_heap HROW2.out
  have hwl : w.heap.size < W2.heap.size := lt_of_heap HBX2.out
  have hrb3 : RestB W3.heap.size W3 h (.slice (some ⟨g2, 0, none⟩) rr.length rr.length) rr := by
    obtain ⟨sp, cp, e1, e2⟩ := HREST2.out
    refine ⟨sp, cp, e1, fun h0 => ?_⟩
    obtain ⟨g, o, x1, x2, x3, x4, x5⟩ := e2 h0
    refine ⟨g, o, x1, by omega, by omega, x3, x4, fun j u hj => ?_⟩
    rw [hW3]
    exact new_past x2 (x5 j u hj)
  have HBB3 := Lib.hid hbb3
  have HF3 := Lib.hid hf3
  have HROW3 := Lib.hid hrow3
  have HBX3 := Lib.hid hbx3
  have HRB3 := Lib.hid hrb3
  have HS3 := Lib.hid hs3
  clear hW3 hbb3 hf3 hrow3 hbx3 hrb3 hs3 cbx
  have hrr8 : rr.length ≤ 800000 := by have := HRL.out; omega
  go_wp2_with fail
  refine wpIn_wide.1 (range_law2 (n := 5) (gf := 99) (lb := #[.pointer (some ⟨W2.heap.size, 0, none⟩)]) rfl (fun args wx => enters99 args wx)
    (blocks_iter h W2.heap.size W3.heap.size rr hrr8 W3 HBB3.out _ s n HROW3.out (by omega) (by have := HS3.out; omega) (Nat.le_refl _) HRB3.out (by have := HS3.out; omega)) ?hF ?hR ?hS (fun _ => rfl)
    (fun t W => (∃ v', W.heap[h]? = some (.cells (hrow v' (s.after rr t) n) 93 (0, 0))) ∧ W.heap[w.heap.size]? = some (.cells #[.pointer (some ⟨h, 0, none⟩)] 46 (0, 0)) ∧ Far (fun k => k = h ∨ W3.heap.size ≤ k) W3 W)
    (fun _ _ => False) ?hIr (fun _ _ _ h _ => h) ?hI (fun _ _ _ h _ => h) (fun _ _ _ h => h) ?h0 ?a1 ?assign ?body ?done (fun _ _ h _ => h.elim))
  case hF =>
    rintro W W' ⟨v', s', hr', hb'⟩ hf
    have := HS3.out
    exact ⟨v', s', hf.heap hr' (by omega), hb'.far hf (by omega)⟩
  case hR =>
    rintro W W' ⟨hf, _⟩
    have := HS3.out
    exact hf.mono (fun k _ e => by omega)
  case hS =>
    rintro A B C D f1 ⟨f2, hrw⟩ f3
    have := HS3.out
    refine ⟨((f1.mono (fun k _ e => by omega)).trans f2).trans (f3.mono (fun k _ e => by omega)), fun v s n e => ?_⟩
    obtain ⟨s', hs'⟩ := hrw v s n (f1.heap e (by omega))
    exact ⟨s', f3.heap hs' (by omega)⟩
  case hIr =>
    rintro t W W' ⟨⟨v', q1⟩, q2, q3⟩ ⟨hf, hrw⟩
    exact ⟨hrw _ _ _ q1, hf.heap q2 (by omega), q3.trans (hf.mono (fun k _ e => .inl e))⟩
  case hI =>
    rintro t W W' ⟨⟨v', q1⟩, q2, q3⟩ hf
    have := HS3.out
    exact ⟨⟨v', hf.heap q1 (by omega)⟩, hf.heap q2 (by omega), q3.trans (hf.mono (fun k _ e => by omega))⟩
  case h0 => exact ⟨⟨_, HROW3.out⟩, HBX3.out, Far.refl _ _⟩
  case a1 => exact fun t => { tmps := #[.pointer (some ⟨h, 0, none⟩), .string m, .pointer (some ⟨w.heap.size, 0, none⟩), undef, .string ⟨((rr.drop (64 * t)).take 64).toArray⟩, .pointer (some ⟨h, 0, none⟩), .pointer (some ⟨h, 0, none⟩), .pointer (some ⟨h, 0, none⟩), .string m, .slice (some ⟨w.heap.size + 1, 0, none⟩) m.size C, .tuple #[], .pointer (some ⟨h, 0, none⟩), .pointer (some ⟨h, 0, none⟩), .pointer (some ⟨h, 0, none⟩), .func (.func 99) #[] #[.pointer (some ⟨W2.heap.size, 0, none⟩)], .string ⟨((rr.drop (64 * t)).take 64).toArray⟩, undef, undef, undef, undef, undef, undef, undef, undef, undef, undef, undef, undef], defers := [] }
  case assign =>
    intro t W K hK
    gi_wp2
    exact hK
  case body =>
    rintro t W ht hlt ⟨⟨v', q1⟩, q2, q3⟩
    have hsz := block_size rr t ht
    have hst := after_step s rr t
    have hok := Sha.St.after_ok Hs.out rr t
    obtain ⟨S, hS⟩ : ∃ S, s.after rr t = S := ⟨_, rfl⟩
    obtain ⟨U, hU⟩ : ∃ U, s.after rr (t + 1) = U := ⟨_, rfl⟩
    rw [hS] at hok q1 hst
    rw [hU] at hst
    have hlW : h < W.heap.size := lt_of_heap q1
    have hBw : B ≤ w.heap.size := HG.out.size
    have hG1 : Glob B aw ab W := HG.out.below ((HF3.out.to_below hBw (by omega)).trans (q3.to_below (by have := HS3.out; omega) (by have := HS3.out; omega)))
    have hcomp : ∀ W' : World, Below W.heap.size W W' → Calls Tryd.prog 29 #[.agg #[.int .i64 S.a, .int .i64 S.b, .int .i64 S.c, .int .i64 S.d, .int .i64 S.e, .int .i64 S.f, .int .i64 S.g, .int .i64 S.h], .string ⟨((rr.drop (64 * t)).take 64).toArray⟩] W' fun e w9 => e = .returned (.tuple #[.agg #[.int .i64 U.a, .int .i64 U.b, .int .i64 U.c, .int .i64 U.d, .int .i64 U.e, .int .i64 U.f, .int .i64 U.g, .int .i64 U.h], .int .i64 0]) ∧ Below W.heap.size W w9 := fun W' hb => by
      have hc := compress_ok (hG1.below (hb.mono hG1.size)) S hok ⟨((rr.drop (64 * t)).take 64).toArray⟩ hsz
      rw [hst] at hc
      exact hc.mono fun e w9 hh => ⟨hh.1, hb.trans (hh.2.mono hb.size)⟩
    have c0 : W.cell? ⟨w.heap.size, 0, none⟩ = some (.pointer (some ⟨h, 0, none⟩)) := cell_of q2 0
    have hbW : w.heap.size < W.heap.size := lt_of_heap q2
    have y0 : W.cell? ⟨h, 1, none⟩ = some (.int .i64 S.a) := cell_of q1 1
    have y1 : W.cell? ⟨h, 2, none⟩ = some (.int .i64 S.b) := cell_of q1 2
    have y2 : W.cell? ⟨h, 3, none⟩ = some (.int .i64 S.c) := cell_of q1 3
    have y3 : W.cell? ⟨h, 4, none⟩ = some (.int .i64 S.d) := cell_of q1 4
    have y4 : W.cell? ⟨h, 5, none⟩ = some (.int .i64 S.e) := cell_of q1 5
    have y5 : W.cell? ⟨h, 6, none⟩ = some (.int .i64 S.f) := cell_of q1 6
    have y6 : W.cell? ⟨h, 7, none⟩ = some (.int .i64 S.g) := cell_of q1 7
    have y7 : W.cell? ⟨h, 8, none⟩ = some (.int .i64 S.h) := cell_of q1 8
    have HC := Lib.hid hcomp
    have Q1 := Lib.hid q1
    have Q2 := Lib.hid q2
    have Q3 := Lib.hid q3
    have HU := Lib.hid hU
    clear hcomp q1 q2 q3 hst hok hS hG1 hsz hU
    refine wpIn_mono (Q := fun e _ W' => e = .normal ∧ ∃ w9, Below W.heap.size W w9 ∧ W' = ((((((((w9.setCell ⟨h, 1, none⟩ (.int .i64 U.a)).setCell ⟨h, 2, none⟩ (.int .i64 U.b)).setCell ⟨h, 3, none⟩ (.int .i64 U.c)).setCell ⟨h, 4, none⟩ (.int .i64 U.d)).setCell ⟨h, 5, none⟩ (.int .i64 U.e)).setCell ⟨h, 6, none⟩ (.int .i64 U.f)).setCell ⟨h, 7, none⟩ (.int .i64 U.g)).setCell ⟨h, 8, none⟩ (.int .i64 U.h))) ?_ ?_
    · clear HG Hs HH HV HWC HBX HF1 HRL HROW2 HREST2 HFAR2 HBX2 HBB3 HF3 HROW3 HBX3 HRB3 HS3 Q3 HU hrr8 ht hrl hml
      gi_wp2_with fail
      gi_region_with (refine ⟨trivial, (CallsIn.inRound _ (callsIn_wide.2 (HC.out _ ?_))).mono ?_⟩; (repeat (first | exact Below.refl _ _ | refine Below.drew ?_)); rintro e w9 ⟨rfl, hb9⟩; have q9 : w9.heap[h]? = some (.cells #[v', .int .i64 S.a, .int .i64 S.b, .int .i64 S.c, .int .i64 S.d, .int .i64 S.e, .int .i64 S.f, .int .i64 S.g, .int .i64 S.h, .int .i64 n] 93 (0, 0)) := (hb9.block h hlW).trans Q1.out; have g0 := cell_of q9 1; have f0 := frozen_of q9 1; have g1 := cell_of q9 2; have f1 := frozen_of q9 2; have g2 := cell_of q9 3; have f2 := frozen_of q9 3; have g3 := cell_of q9 4; have f3 := frozen_of q9 4; have g4 := cell_of q9 5; have f4 := frozen_of q9 5; have g5 := cell_of q9 6; have f5 := frozen_of q9 6; have g6 := cell_of q9 7; have f6 := frozen_of q9 7; have g7 := cell_of q9 8; have f7 := frozen_of q9 8; have k9 : w9.cell? ⟨w.heap.size, 0, none⟩ = some (.pointer (some ⟨h, 0, none⟩)) := cell_of ((hb9.block w.heap.size hbW).trans Q2.out) 0; have B9 := Lib.hid hb9; clear q9 hb9)
      all_goals exact ⟨rfl, w9, B9.out, rfl⟩
    · rintro e a3 W' ⟨rfl, w9, b9, rfl⟩
      have e3 := HS3.out
      have q9 : w9.heap[h]? = some (.cells (hrow v' S n) 93 (0, 0)) := (b9.block h hlW).trans Q1.out
      have hst9 := store_state w9 h v' S U n q9
      have hfr9 := far_state (fun k => k = h ∨ W3.heap.size ≤ k) W w9 h U ((Far.of_below b9 _)) (fun _ => .inl rfl)
      refine ⟨⟨⟨v', ?_⟩, hfr9.heap Q2.out (by omega), Q3.out.trans hfr9⟩, ?_, hfr9, fun v2 s2 n2 e => ⟨U, ?_⟩⟩
      · rw [HU.out]; exact hst9
      · exact (far_state (· = h) W w9 h U ((Far.of_below b9 _)) (fun _ => rfl)).mono (fun k _ e => by omega)
      · have e2 := Q1.out.symm.trans e
        simp only [hrow, Option.some.injEq, Obj.cells.injEq, Array.mk.injEq, List.cons.injEq, Value.int.injEq, true_and, and_true] at e2
        rw [← e2.1, ← e2.2.2.2.2.2.2.2.2.2]
        exact hst9
  case done =>
    rintro W ⟨⟨v', q1⟩, q2, q3⟩ hfin hK
    have Q1 := Lib.hid q1
    have Q3 := Lib.hid q3
    have HK := Lib.hid hK
    have HFIN := Lib.hid hfin
    clear q1 q2 q3 hK hfin
    go_wp2_with fail
    refine ⟨by simp, .inl ⟨_, _, rfl, run_takeDeferred HK.out, ?_⟩⟩
    have hp := far_putObj W W3.heap.size (.deferred none)
    have e3 := HS3.out
    obtain ⟨vf, sf, rf, bf⟩ := HFIN.out
    have e2 := Q1.out.symm.trans rf
    simp only [hrow, Option.some.injEq, Obj.cells.injEq, Array.mk.injEq, List.cons.injEq, Value.int.injEq, true_and, and_true] at e2
    have ev := e2.1
    subst ev
    have hfw : Far (· = h) w (W.putObj W3.heap.size (.deferred none)) := (HF3.out.step Q3.out (fun i h1 h2 => by rcases h2 with h2 | h2 <;> omega)).step hp (fun i h1 h2 => by omega)
    have hrb : RestB W3.heap.size (W.putObj W3.heap.size (.deferred none)) h v' (rr.drop (64 * (rr.length / 64))) := bf.far hp (fun k h1 h2 h3 => by omega)
    obtain ⟨sp, cp, e1, e5⟩ := hrb
    refine ⟨_, results74 _ _, rfl, v', hp.heap Q1.out (by omega), ⟨sp, cp, e1, fun h0 => ?_⟩, hfw⟩
    obtain ⟨g, o, x1, _, x2, x3, x4, x5⟩ := e5 h0
    exact ⟨g, o, x1, x2, x3, x4, x5⟩
end Go.Proofs.YtfafidholldjlaaDoor
