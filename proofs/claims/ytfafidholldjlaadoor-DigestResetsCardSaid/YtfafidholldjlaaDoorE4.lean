/- A hasher's memory; bytes put behind those that are no whole block yet. -/
import Derived.Test.YtfafidholldjlaaDoorE3
import Derived.Laws.CopyOwn
import Derived.Laws.MakeOwn
set_option linter.unusedVariables false
set_option linter.unusedSimpArgs false
namespace Go.Proofs.YtfafidholldjlaaDoor
open Go.RowKit
/-- A hasher's cells. -/
def hrow (v : Value) (s : Sha.St) (n : Int) : Array Value := #[v, .int .i64 s.a, .int .i64 s.b, .int .i64 s.c, .int .i64 s.d, .int .i64 s.e, .int .i64 s.f, .int .i64 s.g, .int .i64 s.h, .int .i64 n]
/-- Bytes that a slice holds, in another block than h. -/
def Rest (W : World) (h : Nat) (v : Value) (r : List UInt8) : Prop :=
  ∃ sp cap, v = .slice sp r.length cap ∧ (0 < r.length → ∃ g o, sp = some ⟨g, o, none⟩ ∧ g < W.heap.size ∧ g ≠ h ∧ r.length ≤ cap ∧ ∀ j u, (byteCells r)[j]? = some u → W.cell? ⟨g, o + j, none⟩ = some u)
theorem Rest.far {W W' : World} {h : Nat} {v : Value} {r : List UInt8} (hr : Rest W h v r) (hf : Far (· = h) W W') : Rest W' h v r := by
  obtain ⟨sp, cap, e, hp⟩ := hr
  refine ⟨sp, cap, e, fun h0 => ?_⟩
  obtain ⟨g, o, e1, e2, e3, e4, e5⟩ := hp h0
  exact ⟨g, o, e1, Nat.lt_of_lt_of_le e2 hf.size, e3, e4, fun j u hj => (hf.cell (p := ⟨g, o + j, none⟩) e2 e3).trans (e5 j u hj)⟩
theorem byteCells_length (l : List UInt8) : (byteCells l).length = l.length := by simp [byteCells]
theorem byteCells_one (l : List UInt8) : ∀ v ∈ byteCells l, v.oneCell' = true := by
  intro v hv
  obtain ⟨b, _, rfl⟩ := List.mem_map.1 hv
  rfl
theorem made_zero (n : Nat) : madeCells #[Value.int .u8 0] n = (List.replicate n (Value.int .u8 0)).toArray := by
  unfold madeCells
  apply Array.ext
  · simp
  · intro i h1 h2
    simp [Nat.mod_one]
theorem make_bytes (n : Nat) (hn : n ≤ 1000000) (ki : Int) (hk : ki = (n : Int)) (W : World) : (Instr.makeSlice 40 (.int .i64 ki) (.int .i64 ki)).run Tryd.prog W = .ok (.slice (some ⟨W.heap.size, 0, none⟩) n n) (W.alloc (.cells (List.replicate n (Value.int .u8 0)).toArray 5)) := by
  subst hk
  obtain ⟨i0, hi, hz0, hz1, hz2⟩ := info_parts info5
  have h := run_makeSlice (P := Tryd.prog) (w := W) 40 5 i0 (.int .u8 0) Tryd.underlying40 hi hz0 .i64 .i64 n n (by omega) (by omega) (by rw [hz1]; simp; omega) (by rw [hz2]; omega) (by omega)
  rw [hz1] at h
  simpa [Value.cells, made_zero] using h
theorem slice_tail (g N k : Nat) (hk : k ≤ N) (W : World) : (Instr.slice 40 (.slice (some ⟨g, 0, none⟩) N N) (some (.int .i64 (k : Int))) none none).run Tryd.prog W = .ok (.slice (if N = k then some ⟨g, 0, none⟩ else some ⟨g, k, none⟩) (N - k) (N - k)) W := by
  simp [go_sem, Tryd.underlying40, hk]
theorem size5 : (Tryd.prog.info? 5).map (·.size) = some 1 := by kernel_rfl
theorem splice_front (m : Nat) (l : List Value) (k : Nat) (hk : l.length = k) : splice (List.replicate (k + m) (Value.int .u8 0)) 0 l = l ++ List.replicate m (Value.int .u8 0) := by
  subst hk
  simp [splice]
theorem splice_back (l q : List Value) (k m : Nat) (hk : l.length = k) (hm : q.length = m) : splice (l ++ List.replicate m (Value.int .u8 0)) k q = l ++ q := by
  subst hk hm
  simp [splice]
set_option maxRecDepth 100000 in
set_option maxHeartbeats 2000000 in
theorem put_any (h : Nat) (v : Value) (s : Sha.St) (n : Int) (r : List UInt8) (sl : Option Addr) (cl : Nat) (q : List UInt8) (w : World)
    (hh : w.heap[h]? = some (.cells (hrow v s n) 93 (0, 0))) (hr : Rest w h v r) (hrl : r.length ≤ 400000) (hql : q.length ≤ 400000)
    (hq : 0 < q.length → ∃ gl, sl = some ⟨gl, 0, none⟩ ∧ gl < w.heap.size ∧ ∀ j u, (byteCells q)[j]? = some u → w.cell? ⟨gl, j, none⟩ = some u) :
    Calls Tryd.prog 86 #[.pointer (some ⟨h, 0, none⟩), .slice sl q.length cl] w fun e w' => e = .returned (.tuple #[]) ∧
      ∃ v', w'.heap[h]? = some (.cells (hrow v' s n) 93 (0, 0)) ∧ (∃ g, v' = .slice (some ⟨g, 0, none⟩) (r ++ q).length (r ++ q).length) ∧ Rest w' h v' (r ++ q) ∧ Far (· = h) w w' := by
  obtain ⟨sp, cap, rfl, hp⟩ := hr
  obtain ⟨cs, hcs⟩ : ∃ cs, byteCells r = cs := ⟨_, rfl⟩
  obtain ⟨ds, hds⟩ : ∃ ds, byteCells q = ds := ⟨_, rfl⟩
  have hk : r.length = cs.length := by rw [← hcs, byteCells_length]
  have hm : q.length = ds.length := by rw [← hds, byteCells_length]
  have hc1 : ∀ v ∈ cs, v.oneCell' = true := by rw [← hcs]; exact byteCells_one r
  have hd1 : ∀ v ∈ ds, v.oneCell' = true := by rw [← hds]; exact byteCells_one q
  have hcd : byteCells (r ++ q) = cs ++ ds := by rw [byteCells_append, hcs, hds]
  have hlen : (r ++ q).length = cs.length + ds.length := by rw [List.length_append, hk, hm]
  rw [hk] at hp hrl hh
  rw [hcs] at hp
  rw [hm] at hq hql ⊢
  rw [hds] at hq
  have hl := lt_of_heap hh
  have c0 : w.cell? ⟨h, 0, none⟩ = some (.slice sp cs.length cap) := cell_of hh 0
  have hmk := make_bytes (cs.length + ds.length) (by omega) ((cs.length : Int) + (ds.length : Int)) (by omega)
  have hst := slice_tail w.heap.size (cs.length + ds.length) cs.length (by omega)
  have hkm : cs.length + ds.length - cs.length = ds.length := by omega
  rw [hkm] at hst
  obtain ⟨sp2, hsp2⟩ : ∃ sp2, (if cs.length + ds.length = cs.length then some (⟨w.heap.size, 0, none⟩ : Addr) else some ⟨w.heap.size, cs.length, none⟩) = sp2 := ⟨_, rfl⟩
  have hsp : 0 < ds.length → sp2 = some ⟨w.heap.size, cs.length, none⟩ := fun h0 => by rw [← hsp2, if_neg (by omega)]
  rw [hsp2] at hst
  have HSP := Lib.hid hsp
  clear hsp hsp2
  have q0 : (cs.length : Int) ≤ 400000 := by omega
  have q1 : (ds.length : Int) ≤ 400000 := by omega
  have G1 := Lib.hid (alloc_heap_at w (.cells (List.replicate (cs.length + ds.length) (Value.int .u8 0)).toArray 5) _ rfl)
  have N1 : Hid (cs.length = Nat.min cs.length (cs.length + ds.length)) := Lib.hid (Nat.min_eq_left (by omega)).symm
  have P1 := Lib.hid (fun (h0 : 0 < cs.length) => show some (⟨w.heap.size, 0, none⟩ : Addr) = some ⟨w.heap.size, 0, none⟩ ∧ ∃ ad, sp = some ad ∧ ∀ j v, cs[j]? = some v → (w.alloc (.cells (List.replicate (cs.length + ds.length) (Value.int .u8 0)).toArray 5)).cell? (ad.add j) = some v from by
    obtain ⟨g, o, e1, e2, e3, e4, e5⟩ := hp h0
    exact ⟨rfl, ⟨g, o, none⟩, e1, fun j v hj => by rw [Addr.add_lit]; exact new_past e2 (e5 j v hj)⟩)
  have F1 : Hid (0 + cs.length ≤ (List.replicate (cs.length + ds.length) (Value.int .u8 0)).length) := Lib.hid (by simp)
  have B1 := Lib.hid ((Below.refl w.heap.size w).alloc (Nat.le_refl _) (.cells (List.replicate (cs.length + ds.length) (Value.int .u8 0)).toArray 5))
  have N2 : Hid (ds.length = Nat.min ds.length ds.length) := Lib.hid (Nat.min_self _).symm
  have F2 : Hid (cs.length + ds.length ≤ (cs ++ List.replicate ds.length (Value.int .u8 0)).length) := Lib.hid (by simp)
  have HH := Lib.hid hh
  have HQ := Lib.hid hq
  have HC1 := Lib.hid hc1
  have HD1 := Lib.hid hd1
  have HCD := Lib.hid hcd
  have HLEN := Lib.hid hlen
  clear hh hp hq hk hm hkm hcs hds hc1 hd1 hcd hlen
  go_enter Tryd.func86, Tryd.ntmps86
  go_wp2_with (first
    | (refine wpList_copy_splice rfl (.tmp 15) (.tmp 19) 40 40 rfl 5 Tryd.underlying40 size5 _ _ _ _ _ _ rfl rfl w.heap.size 0 _ 5 G1.out cs N1.out P1.out F1.out HC1.out w.heap.size w B1.out (Nat.le_refl _) ?_; intro w1 hw1 hb1; have G2 : Hid (w1.heap[w.heap.size]? = some (.cells (cs ++ List.replicate ds.length (Value.int .u8 0)).toArray 5 (0, 0))) := Lib.hid (by rw [← splice_front ds.length cs _ rfl]; exact hw1.out); have HB1 := Lib.hid hb1; have P2 := Lib.hid (fun (h0 : 0 < ds.length) => show sp2 = some ⟨w.heap.size, cs.length, none⟩ ∧ ∃ ad, sl = some ad ∧ ∀ j v, ds[j]? = some v → w1.cell? (ad.add j) = some v from (by
        obtain ⟨gl, e1, e2, e3⟩ := HQ.out h0
        exact ⟨HSP.out h0, ⟨gl, 0, none⟩, e1, fun j v hj => (by rw [Addr.add_lit, Nat.zero_add]; exact (HB1.out.cell (p := ⟨gl, j, none⟩) e2).trans (e3 j v hj))⟩)); clear hw1 hb1)
    | (refine wpList_copy_splice rfl (.tmp 21) (.tmp 22) 40 40 rfl 5 Tryd.underlying40 size5 _ _ _ _ _ _ rfl rfl w.heap.size cs.length _ 5 G2.out ds N2.out P2.out F2.out HD1.out w.heap.size w HB1.out (Nat.le_refl _) ?_; intro w2 hw2 hb2; have G3 : Hid (w2.heap[w.heap.size]? = some (.cells (cs ++ ds).toArray 5 (0, 0))) := Lib.hid (by rw [← splice_back cs ds _ _ rfl rfl]; exact hw2.out); have hh2 := (hb2.block h hl).trans HH.out; have c2 : w2.cell? ⟨h, 0, none⟩ = some (.slice sp cs.length cap) := cell_of hh2 0; have f2 := frozen_of hh2 0; have HH2 := Lib.hid hh2; have HB2 := Lib.hid hb2; clear hw2 hb2 hh2))
  go_end0
  have hset := setCell_heap HH2.out 0 (.slice (some ⟨w.heap.size, 0, none⟩) (cs.length + ds.length) (cs.length + ds.length))
  have hfar := (Far.of_below HB2.out (· = h)).setCell (p := ⟨h, 0, none⟩) (fun _ => rfl) (.slice (some ⟨w.heap.size, 0, none⟩) (cs.length + ds.length) (cs.length + ds.length))
  refine ⟨rfl, _, hset, ⟨w.heap.size, by first | rw [HLEN.out] | (have hx := HLEN.out; rw [List.length_append] at hx; rw [hx])⟩, ⟨some ⟨w.heap.size, 0, none⟩, cs.length + ds.length, by first | rw [HLEN.out] | (have hx := HLEN.out; rw [List.length_append] at hx; rw [hx]), fun h0 => ⟨w.heap.size, 0, rfl, ?_, by omega, by rw [HLEN.out]; omega, fun j u hj => ?_⟩⟩, hfar⟩
  · have := lt_of_heap G3.out
    simpa [World.setCell] using this
  · rw [HCD.out] at hj
    have hg3 : (w2.setCell ⟨h, 0, none⟩ (.slice (some ⟨w.heap.size, 0, none⟩) (cs.length + ds.length) (cs.length + ds.length))).heap[w.heap.size]? = some (.cells (cs ++ ds).toArray 5 (0, 0)) := (Below.heap_setCell _ _ _ _ (by show w.heap.size ≠ h; omega)).trans G3.out
    rw [Nat.zero_add, cell_of hg3 j]
    simpa using hj
end Go.Proofs.YtfafidholldjlaaDoor
