/- A text's key; the sum behind a key; a text's tag. -/
import Derived.Test.YtfafidholldjlaaDoorZV
import Derived.Test.YtfafidholldjlaaDoorZL
import Derived.Lib.BufferWrite
set_option linter.unusedVariables false
set_option linter.unusedSimpArgs false
namespace Go.Proofs.YtfafidholldjlaaDoor
open Go.RowKit
theorem load_list {W : World} {b o n : Nat} {l : List Value} (hl : l.length = n) (h : ∀ j v, l[j]? = some v → W.cell? ⟨b, o + j, none⟩ = some v) :
    (loadCellsFrom ⟨b, o, none⟩ 0 n #[]).run Tryd.prog W = .ok l.toArray W := by
  subst hl
  have := run_loadCells_list (P := Tryd.prog) W ⟨b, o, none⟩ l (fun j v hv => by
    have hadd : (⟨b, o, none⟩ : Addr).add j = ⟨b, o + j, none⟩ := by unfold Addr.add; split <;> simp_all
    rw [hadd]
    exact h j v hv)
  simpa [loadCells] using this
theorem load_row {W : World} {b : Nat} {Y : Array Value} {T : TypeId} {fr : Nat × Nat} (hY : Y.size = 64) (h : W.heap[b]? = some (.cells Y T fr)) :
    (loadCellsFrom ⟨b, 0, none⟩ 0 64 #[]).run Tryd.prog W = .ok Y W := by
  have := load_list (W := W) (b := b) (o := 0) (n := 64) (l := Y.toList) (by simpa using hY) (fun j v hv => by
    rw [Nat.zero_add, World.cell?, h]
    simpa using hv)
  simpa using this
theorem size97 : (Tryd.prog.info? 97).map (·.size) = some 64 := by kernel_rfl
theorem load_key {W : World} {b : Nat} {Y : Array Value} {T : TypeId} {fr : Nat × Nat} (hY : Y.size = 64) (h : W.heap[b]? = some (.cells Y T fr)) :
    (Instr.loadAt 97 (.pointer (some ⟨b, 0, none⟩))).run Tryd.prog W = .ok (.agg Y) W := by
  simp only [Instr.loadAt, Instr.sureAddr, Sem.run_bind, Sem.run_pure, Result.andThen]
  exact run_loadVar_row W b T 97 Y fr _ h Tryd.underlying97 rfl (by rw [size97, hY])
theorem store_key {W : World} {b : Nat} {Y C : Array Value} (hY : Y.size = 64) (hC : C.size = 64) (h1 : Y.all (·.oneCell') = true) (h : W.heap[b]? = some (.cells C 97 (0, 0))) :
    (Instr.storeAt 97 (.pointer (some ⟨b, 0, none⟩)) (.agg Y)).run Tryd.prog W = .ok () (W.setRow b Y) := by
  simp only [Instr.storeAt, Instr.sureAddr, Sem.run_bind, Sem.run_pure, Result.andThen]
  exact run_storeVar_row W b 97 97 C Y h (by rw [size97, hY]) (by rw [hY, hC]) h1
theorem below_setRow {N : Nat} {a w : World} (h : Below N a w) (g : Nat) (hg : N ≤ g) (Y : Array Value) : Below N a (w.setRow g Y) :=
  h.trans ⟨rfl, rfl, rfl, by simp, fun k hk => setRow_other _ _ _ _ (by omega)⟩
theorem padded_row (l : List UInt8) (hl : l.length ≤ 64) : (List.take 0 (List.replicate 64 (Value.int .u8 0)) ++ byteCells l ++ List.drop (0 + l.length) (List.replicate 64 (Value.int .u8 0))).toArray = (byteCells (Sha.padded l)).toArray := by
  congr 1
  rw [List.take_zero, List.nil_append, Nat.zero_add, List.drop_replicate]
  unfold Sha.padded byteCells
  rw [List.map_append, List.map_replicate]
  rfl
set_option maxRecDepth 100000 in
set_option maxHeartbeats 1000000 in
theorem keyof_any {B : Nat} {aw ab : Addr} {w : World} (hG : Glob B aw ab w) (s : ByteArray) (hs : s.size ≤ 100000) : Calls Tryd.prog 76 #[.string s] w fun e w' => e = .returned (.agg (byteCells (Sha.padded (Sha.keyOf s.data.toList))).toArray) ∧ Below w.heap.size w w' := by
  have HG := Lib.hid hG
  clear hG
  have hz : (#[.int .u8 0, .int .u8 0, .int .u8 0, .int .u8 0, .int .u8 0, .int .u8 0, .int .u8 0, .int .u8 0, .int .u8 0, .int .u8 0, .int .u8 0, .int .u8 0, .int .u8 0, .int .u8 0, .int .u8 0, .int .u8 0, .int .u8 0, .int .u8 0, .int .u8 0, .int .u8 0, .int .u8 0, .int .u8 0, .int .u8 0, .int .u8 0, .int .u8 0, .int .u8 0, .int .u8 0, .int .u8 0, .int .u8 0, .int .u8 0, .int .u8 0, .int .u8 0, .int .u8 0, .int .u8 0, .int .u8 0, .int .u8 0, .int .u8 0, .int .u8 0, .int .u8 0, .int .u8 0, .int .u8 0, .int .u8 0, .int .u8 0, .int .u8 0, .int .u8 0, .int .u8 0, .int .u8 0, .int .u8 0, .int .u8 0, .int .u8 0, .int .u8 0, .int .u8 0, .int .u8 0, .int .u8 0, .int .u8 0, .int .u8 0, .int .u8 0, .int .u8 0, .int .u8 0, .int .u8 0, .int .u8 0, .int .u8 0, .int .u8 0, .int .u8 0] : Array Value) = (List.replicate 64 (Value.int .u8 0)).toArray := rfl
  have hzs : (#[.int .u8 0, .int .u8 0, .int .u8 0, .int .u8 0, .int .u8 0, .int .u8 0, .int .u8 0, .int .u8 0, .int .u8 0, .int .u8 0, .int .u8 0, .int .u8 0, .int .u8 0, .int .u8 0, .int .u8 0, .int .u8 0, .int .u8 0, .int .u8 0, .int .u8 0, .int .u8 0, .int .u8 0, .int .u8 0, .int .u8 0, .int .u8 0, .int .u8 0, .int .u8 0, .int .u8 0, .int .u8 0, .int .u8 0, .int .u8 0, .int .u8 0, .int .u8 0, .int .u8 0, .int .u8 0, .int .u8 0, .int .u8 0, .int .u8 0, .int .u8 0, .int .u8 0, .int .u8 0, .int .u8 0, .int .u8 0, .int .u8 0, .int .u8 0, .int .u8 0, .int .u8 0, .int .u8 0, .int .u8 0, .int .u8 0, .int .u8 0, .int .u8 0, .int .u8 0, .int .u8 0, .int .u8 0, .int .u8 0, .int .u8 0, .int .u8 0, .int .u8 0, .int .u8 0, .int .u8 0, .int .u8 0, .int .u8 0, .int .u8 0, .int .u8 0] : Array Value).size = 64 := rfl
  have key : ∀ (q : ByteArray), q.size ≤ 64 → ∀ (W : World) (g : Nat), W.heap[g]? = some (.cells #[.int .u8 0, .int .u8 0, .int .u8 0, .int .u8 0, .int .u8 0, .int .u8 0, .int .u8 0, .int .u8 0, .int .u8 0, .int .u8 0, .int .u8 0, .int .u8 0, .int .u8 0, .int .u8 0, .int .u8 0, .int .u8 0, .int .u8 0, .int .u8 0, .int .u8 0, .int .u8 0, .int .u8 0, .int .u8 0, .int .u8 0, .int .u8 0, .int .u8 0, .int .u8 0, .int .u8 0, .int .u8 0, .int .u8 0, .int .u8 0, .int .u8 0, .int .u8 0, .int .u8 0, .int .u8 0, .int .u8 0, .int .u8 0, .int .u8 0, .int .u8 0, .int .u8 0, .int .u8 0, .int .u8 0, .int .u8 0, .int .u8 0, .int .u8 0, .int .u8 0, .int .u8 0, .int .u8 0, .int .u8 0, .int .u8 0, .int .u8 0, .int .u8 0, .int .u8 0, .int .u8 0, .int .u8 0, .int .u8 0, .int .u8 0, .int .u8 0, .int .u8 0, .int .u8 0, .int .u8 0, .int .u8 0, .int .u8 0, .int .u8 0, .int .u8 0] 97 (0, 0)) → ∃ Y : Array Value, Y = (byteCells (Sha.padded q.data.toList)).toArray ∧ Y.size = 64 ∧ (Builtin.copy_ #[40, 9] 3 #[.slice (some ⟨g, 0, none⟩) 64 64, .string q]).run Tryd.prog W = .ok (goInt q.size) (W.setRow g Y) ∧ (W.setRow g Y).heap[g]? = some (.cells Y 97 (0, 0)) := by
    intro q hq W g hg
    have hcp := Lib.run_copy_row_string (P := Tryd.prog) W 40 9 3 5 g 0 64 64 q #[.int .u8 0, .int .u8 0, .int .u8 0, .int .u8 0, .int .u8 0, .int .u8 0, .int .u8 0, .int .u8 0, .int .u8 0, .int .u8 0, .int .u8 0, .int .u8 0, .int .u8 0, .int .u8 0, .int .u8 0, .int .u8 0, .int .u8 0, .int .u8 0, .int .u8 0, .int .u8 0, .int .u8 0, .int .u8 0, .int .u8 0, .int .u8 0, .int .u8 0, .int .u8 0, .int .u8 0, .int .u8 0, .int .u8 0, .int .u8 0, .int .u8 0, .int .u8 0, .int .u8 0, .int .u8 0, .int .u8 0, .int .u8 0, .int .u8 0, .int .u8 0, .int .u8 0, .int .u8 0, .int .u8 0, .int .u8 0, .int .u8 0, .int .u8 0, .int .u8 0, .int .u8 0, .int .u8 0, .int .u8 0, .int .u8 0, .int .u8 0, .int .u8 0, .int .u8 0, .int .u8 0, .int .u8 0, .int .u8 0, .int .u8 0, .int .u8 0, .int .u8 0, .int .u8 0, .int .u8 0, .int .u8 0, .int .u8 0, .int .u8 0, .int .u8 0] 97 Tryd.underlying40 size5 hg hq (by rw [hzs]; omega)
    rw [hz] at hcp
    have hp := padded_row q.data.toList (by exact hq)
    refine ⟨_, rfl, by simp [byteCells, Sha.padded_length _ (show q.data.toList.length ≤ 64 from hq)], ?_, ?_⟩
    · rw [← hp]
      exact hcp
    · exact setRow_heap _ _ _ _ 97 (0, 0) hg
  have KEY := Lib.hid key
  clear hz hzs key
  by_cases hl : 64 < s.size
  · have i0 : (64 : Int) < (s.size : Int) := by omega
    have hko : Sha.keyOf s.data.toList = (shaBytes s.data.toList).data.toList := by unfold Sha.keyOf; rw [if_pos (by exact hl)]; rfl
    rw [hko]
    have hs32 := shaBytes_size s.data.toList
    obtain ⟨bs, hbs⟩ : ∃ b, shaBytes s.data.toList = b := ⟨_, rfl⟩
    rw [hbs] at hs32 ⊢
    have HBS := Lib.hid hbs
    clear hbs hko
    obtain ⟨K, hK⟩ : ∃ K, (byteCells (Sha.padded bs.data.toList)).toArray = K := ⟨_, rfl⟩
    rw [hK]
    have HK := Lib.hid hK
    clear hK
    go_enter Tryd.func76, Tryd.ntmps76
    go_wp2_with fail
    generalize hW1 : (w.alloc (.cells #[.int .u8 0, .int .u8 0, .int .u8 0, .int .u8 0, .int .u8 0, .int .u8 0, .int .u8 0, .int .u8 0, .int .u8 0, .int .u8 0, .int .u8 0, .int .u8 0, .int .u8 0, .int .u8 0, .int .u8 0, .int .u8 0, .int .u8 0, .int .u8 0, .int .u8 0, .int .u8 0, .int .u8 0, .int .u8 0, .int .u8 0, .int .u8 0, .int .u8 0, .int .u8 0, .int .u8 0, .int .u8 0, .int .u8 0, .int .u8 0, .int .u8 0, .int .u8 0, .int .u8 0, .int .u8 0, .int .u8 0, .int .u8 0, .int .u8 0, .int .u8 0, .int .u8 0, .int .u8 0, .int .u8 0, .int .u8 0, .int .u8 0, .int .u8 0, .int .u8 0, .int .u8 0, .int .u8 0, .int .u8 0, .int .u8 0, .int .u8 0, .int .u8 0, .int .u8 0, .int .u8 0, .int .u8 0, .int .u8 0, .int .u8 0, .int .u8 0, .int .u8 0, .int .u8 0, .int .u8 0, .int .u8 0, .int .u8 0, .int .u8 0, .int .u8 0] 97)).alloc (.cells #[.int .u8 0, .int .u8 0, .int .u8 0, .int .u8 0, .int .u8 0, .int .u8 0, .int .u8 0, .int .u8 0, .int .u8 0, .int .u8 0, .int .u8 0, .int .u8 0, .int .u8 0, .int .u8 0, .int .u8 0, .int .u8 0, .int .u8 0, .int .u8 0, .int .u8 0, .int .u8 0, .int .u8 0, .int .u8 0, .int .u8 0, .int .u8 0, .int .u8 0, .int .u8 0, .int .u8 0, .int .u8 0, .int .u8 0, .int .u8 0, .int .u8 0, .int .u8 0, .int .u8 0, .int .u8 0, .int .u8 0, .int .u8 0, .int .u8 0, .int .u8 0, .int .u8 0, .int .u8 0, .int .u8 0, .int .u8 0, .int .u8 0, .int .u8 0, .int .u8 0, .int .u8 0, .int .u8 0, .int .u8 0, .int .u8 0, .int .u8 0, .int .u8 0, .int .u8 0, .int .u8 0, .int .u8 0, .int .u8 0, .int .u8 0, .int .u8 0, .int .u8 0, .int .u8 0, .int .u8 0, .int .u8 0, .int .u8 0, .int .u8 0, .int .u8 0] 97) = W1
    have hb1 : Below w.heap.size w W1 := by rw [← hW1]; exact ((Below.refl _ w).alloc (Nat.le_refl _) _).alloc (by simp) _
    have hr0 : W1.heap[w.heap.size]? = some (.cells #[.int .u8 0, .int .u8 0, .int .u8 0, .int .u8 0, .int .u8 0, .int .u8 0, .int .u8 0, .int .u8 0, .int .u8 0, .int .u8 0, .int .u8 0, .int .u8 0, .int .u8 0, .int .u8 0, .int .u8 0, .int .u8 0, .int .u8 0, .int .u8 0, .int .u8 0, .int .u8 0, .int .u8 0, .int .u8 0, .int .u8 0, .int .u8 0, .int .u8 0, .int .u8 0, .int .u8 0, .int .u8 0, .int .u8 0, .int .u8 0, .int .u8 0, .int .u8 0, .int .u8 0, .int .u8 0, .int .u8 0, .int .u8 0, .int .u8 0, .int .u8 0, .int .u8 0, .int .u8 0, .int .u8 0, .int .u8 0, .int .u8 0, .int .u8 0, .int .u8 0, .int .u8 0, .int .u8 0, .int .u8 0, .int .u8 0, .int .u8 0, .int .u8 0, .int .u8 0, .int .u8 0, .int .u8 0, .int .u8 0, .int .u8 0, .int .u8 0, .int .u8 0, .int .u8 0, .int .u8 0, .int .u8 0, .int .u8 0, .int .u8 0, .int .u8 0] 97 (0, 0)) := by rw [← hW1]; exact alloc_heap_old _ (alloc_heap_at _ _ _ rfl)
    have hr1 : W1.heap[w.heap.size + 1]? = some (.cells #[.int .u8 0, .int .u8 0, .int .u8 0, .int .u8 0, .int .u8 0, .int .u8 0, .int .u8 0, .int .u8 0, .int .u8 0, .int .u8 0, .int .u8 0, .int .u8 0, .int .u8 0, .int .u8 0, .int .u8 0, .int .u8 0, .int .u8 0, .int .u8 0, .int .u8 0, .int .u8 0, .int .u8 0, .int .u8 0, .int .u8 0, .int .u8 0, .int .u8 0, .int .u8 0, .int .u8 0, .int .u8 0, .int .u8 0, .int .u8 0, .int .u8 0, .int .u8 0, .int .u8 0, .int .u8 0, .int .u8 0, .int .u8 0, .int .u8 0, .int .u8 0, .int .u8 0, .int .u8 0, .int .u8 0, .int .u8 0, .int .u8 0, .int .u8 0, .int .u8 0, .int .u8 0, .int .u8 0, .int .u8 0, .int .u8 0, .int .u8 0, .int .u8 0, .int .u8 0, .int .u8 0, .int .u8 0, .int .u8 0, .int .u8 0, .int .u8 0, .int .u8 0, .int .u8 0, .int .u8 0, .int .u8 0, .int .u8 0, .int .u8 0, .int .u8 0] 97 (0, 0)) := by rw [← hW1]; exact alloc_heap_at _ _ _ (by simp)
    have HB1 := Lib.hid hb1
    have HR0 := Lib.hid hr0
    have HR1 := Lib.hid hr1
    clear hW1 hb1 hr0 hr1
    refine (dsum_ok (HG.out.below (HB1.out.mono HG.out.size)) s hs).mono ?_
    rintro e w2 ⟨rfl, hb2⟩
    rw [HBS.out]
    have HB2 := Lib.hid (HB1.out.trans (hb2.mono HB1.out.size))
    have hr0 := (hb2.block _ (lt_of_heap HR0.out)).trans HR0.out
    have hr1 := (hb2.block _ (lt_of_heap HR1.out)).trans HR1.out
    obtain ⟨Y, hY, hYs, hcp, hYr⟩ := KEY.out bs (by omega) w2 (w.heap.size + 1) hr1
    have hone : Y.all (·.oneCell') = true := by
      rw [hY]
      simp [byteCells, Value.oneCell']
    have hr0' := (setRow_other w2 (w.heap.size + 1) w.heap.size Y (by omega)).trans hr0
    have hi97 : (Tryd.prog.info? 97).map (·.size) = some Y.size := by rw [size97, hYs]
    have HR0' := Lib.hid hr0'
    have HYR := Lib.hid hYr
    have HI := Lib.hid hi97
    have HONE := Lib.hid hone
    have HYK : Hid (Y = K) := Lib.hid (by rw [hY, HK.out])
    have HYS := Lib.hid hYs
    clear hb2 hr1 HR0 HR1 hY hr0 hr0' hYr hone hi97 hYs
    go_wp2_with (first
      | (refine wpList_load_row rfl 97 _ rfl (w.heap.size + 1) rfl 97 Y (0, 0) _ HYR.out Tryd.underlying97 rfl HI.out ?_)
      | (refine wpList_store_row rfl 97 _ _ rfl w.heap.size Y rfl rfl 97 _ HR0'.out HI.out (by rw [HYS.out]; rfl) HONE.out ?_))
    refine bodyPost_ret (v := .agg Y) (results_cell_row Tryd.results76 _ _ w.heap.size 97 Y (0, 0) _ rfl ?_ Tryd.underlying97 rfl HI.out) rfl ⟨by rw [HYK.out], ?_⟩
    · exact setRow_heap _ _ _ _ 97 (0, 0) HR0'.out
    · exact below_setRow (below_setRow HB2.out _ (by omega) _) _ (Nat.le_refl _) _
  · have i0 : (s.size : Int) ≤ 64 := by omega
    have hko : Sha.keyOf s.data.toList = s.data.toList := by unfold Sha.keyOf; rw [if_neg (by exact hl)]
    rw [hko]
    obtain ⟨K, hK⟩ : ∃ K, (byteCells (Sha.padded s.data.toList)).toArray = K := ⟨_, rfl⟩
    rw [hK]
    have HK := Lib.hid hK
    clear hK hko
    go_enter Tryd.func76, Tryd.ntmps76
    go_upto_region 4 with (fail)
    generalize hW1 : (w.alloc (.cells #[.int .u8 0, .int .u8 0, .int .u8 0, .int .u8 0, .int .u8 0, .int .u8 0, .int .u8 0, .int .u8 0, .int .u8 0, .int .u8 0, .int .u8 0, .int .u8 0, .int .u8 0, .int .u8 0, .int .u8 0, .int .u8 0, .int .u8 0, .int .u8 0, .int .u8 0, .int .u8 0, .int .u8 0, .int .u8 0, .int .u8 0, .int .u8 0, .int .u8 0, .int .u8 0, .int .u8 0, .int .u8 0, .int .u8 0, .int .u8 0, .int .u8 0, .int .u8 0, .int .u8 0, .int .u8 0, .int .u8 0, .int .u8 0, .int .u8 0, .int .u8 0, .int .u8 0, .int .u8 0, .int .u8 0, .int .u8 0, .int .u8 0, .int .u8 0, .int .u8 0, .int .u8 0, .int .u8 0, .int .u8 0, .int .u8 0, .int .u8 0, .int .u8 0, .int .u8 0, .int .u8 0, .int .u8 0, .int .u8 0, .int .u8 0, .int .u8 0, .int .u8 0, .int .u8 0, .int .u8 0, .int .u8 0, .int .u8 0, .int .u8 0, .int .u8 0] 97)).alloc (.cells #[.int .u8 0, .int .u8 0, .int .u8 0, .int .u8 0, .int .u8 0, .int .u8 0, .int .u8 0, .int .u8 0, .int .u8 0, .int .u8 0, .int .u8 0, .int .u8 0, .int .u8 0, .int .u8 0, .int .u8 0, .int .u8 0, .int .u8 0, .int .u8 0, .int .u8 0, .int .u8 0, .int .u8 0, .int .u8 0, .int .u8 0, .int .u8 0, .int .u8 0, .int .u8 0, .int .u8 0, .int .u8 0, .int .u8 0, .int .u8 0, .int .u8 0, .int .u8 0, .int .u8 0, .int .u8 0, .int .u8 0, .int .u8 0, .int .u8 0, .int .u8 0, .int .u8 0, .int .u8 0, .int .u8 0, .int .u8 0, .int .u8 0, .int .u8 0, .int .u8 0, .int .u8 0, .int .u8 0, .int .u8 0, .int .u8 0, .int .u8 0, .int .u8 0, .int .u8 0, .int .u8 0, .int .u8 0, .int .u8 0, .int .u8 0, .int .u8 0, .int .u8 0, .int .u8 0, .int .u8 0, .int .u8 0, .int .u8 0, .int .u8 0, .int .u8 0] 97) = w2
    have hb1 : Below w.heap.size w w2 := by rw [← hW1]; exact ((Below.refl _ w).alloc (Nat.le_refl _) _).alloc (by simp) _
    have hr0 : w2.heap[w.heap.size]? = some (.cells #[.int .u8 0, .int .u8 0, .int .u8 0, .int .u8 0, .int .u8 0, .int .u8 0, .int .u8 0, .int .u8 0, .int .u8 0, .int .u8 0, .int .u8 0, .int .u8 0, .int .u8 0, .int .u8 0, .int .u8 0, .int .u8 0, .int .u8 0, .int .u8 0, .int .u8 0, .int .u8 0, .int .u8 0, .int .u8 0, .int .u8 0, .int .u8 0, .int .u8 0, .int .u8 0, .int .u8 0, .int .u8 0, .int .u8 0, .int .u8 0, .int .u8 0, .int .u8 0, .int .u8 0, .int .u8 0, .int .u8 0, .int .u8 0, .int .u8 0, .int .u8 0, .int .u8 0, .int .u8 0, .int .u8 0, .int .u8 0, .int .u8 0, .int .u8 0, .int .u8 0, .int .u8 0, .int .u8 0, .int .u8 0, .int .u8 0, .int .u8 0, .int .u8 0, .int .u8 0, .int .u8 0, .int .u8 0, .int .u8 0, .int .u8 0, .int .u8 0, .int .u8 0, .int .u8 0, .int .u8 0, .int .u8 0, .int .u8 0, .int .u8 0, .int .u8 0] 97 (0, 0)) := by rw [← hW1]; exact alloc_heap_old _ (alloc_heap_at _ _ _ rfl)
    have hr1 : w2.heap[w.heap.size + 1]? = some (.cells #[.int .u8 0, .int .u8 0, .int .u8 0, .int .u8 0, .int .u8 0, .int .u8 0, .int .u8 0, .int .u8 0, .int .u8 0, .int .u8 0, .int .u8 0, .int .u8 0, .int .u8 0, .int .u8 0, .int .u8 0, .int .u8 0, .int .u8 0, .int .u8 0, .int .u8 0, .int .u8 0, .int .u8 0, .int .u8 0, .int .u8 0, .int .u8 0, .int .u8 0, .int .u8 0, .int .u8 0, .int .u8 0, .int .u8 0, .int .u8 0, .int .u8 0, .int .u8 0, .int .u8 0, .int .u8 0, .int .u8 0, .int .u8 0, .int .u8 0, .int .u8 0, .int .u8 0, .int .u8 0, .int .u8 0, .int .u8 0, .int .u8 0, .int .u8 0, .int .u8 0, .int .u8 0, .int .u8 0, .int .u8 0, .int .u8 0, .int .u8 0, .int .u8 0, .int .u8 0, .int .u8 0, .int .u8 0, .int .u8 0, .int .u8 0, .int .u8 0, .int .u8 0, .int .u8 0, .int .u8 0, .int .u8 0, .int .u8 0, .int .u8 0, .int .u8 0] 97 (0, 0)) := by rw [← hW1]; exact alloc_heap_at _ _ _ (by simp)
    have HB2 := Lib.hid hb1
    clear hW1 hb1
    obtain ⟨Y, hY, hYs, hcp, hYr⟩ := KEY.out s (by omega) w2 (w.heap.size + 1) hr1
    have hone : Y.all (·.oneCell') = true := by
      rw [hY]
      simp [byteCells, Value.oneCell']
    have hr0' := (setRow_other w2 (w.heap.size + 1) w.heap.size Y (by omega)).trans hr0
    have hi97 : (Tryd.prog.info? 97).map (·.size) = some Y.size := by rw [size97, hYs]
    have HR0' := Lib.hid hr0'
    have HYR := Lib.hid hYr
    have HI := Lib.hid hi97
    have HONE := Lib.hid hone
    have HYK : Hid (Y = K) := Lib.hid (by rw [hY, HK.out])
    have HYS := Lib.hid hYs
    clear hr1 hY hr0 hr0' hYr hone hi97 hYs
    go_wp2_with (first
      | (refine wpList_load_row rfl 97 _ rfl (w.heap.size + 1) rfl 97 Y (0, 0) _ HYR.out Tryd.underlying97 rfl HI.out ?_)
      | (refine wpList_store_row rfl 97 _ _ rfl w.heap.size Y rfl rfl 97 _ HR0'.out HI.out (by rw [HYS.out]; rfl) HONE.out ?_))
    refine bodyPost_ret (v := .agg Y) (results_cell_row Tryd.results76 _ _ w.heap.size 97 Y (0, 0) _ rfl ?_ Tryd.underlying97 rfl HI.out) rfl ⟨by rw [HYK.out], ?_⟩
    · exact setRow_heap _ _ _ _ 97 (0, 0) HR0'.out
    · exact below_setRow (below_setRow HB2.out _ (by omega) _) _ (Nat.le_refl _) _
end Go.Proofs.YtfafidholldjlaaDoor
