/- The machine's round. -/
import Derived.Test.YtfafidholldjlaaDoorA1b
import Derived.Test.YtfafidholldjlaaDoorA4
import Derived.Test.YtfafidholldjlaaDoorFar
import Derived.Deep.RegionHeld3
import Derived.Deep.DrawnRows
import Derived.BigQuiet
import Derived.Deep.QuietTactic
import Derived.WalkSmall
set_option linter.unusedVariables false
set_option linter.unusedSimpArgs false
namespace Go.Proofs.YtfafidholldjlaaDoor
open Go.RowKit
theorem elem73 : (Tryd.prog.info? 73).map (·.size) = some 1 := by kernel_rfl
/-- What a round adds, as the walk spells it. -/
def t1W (s4 s5 s6 s7 kc x : Nat) : Int := IntKind.u32.wrap (IntKind.u32.wrap (IntKind.u32.wrap (IntKind.u32.wrap (s7 + (Sha.turned s4 [6, 11, 25] : Nat)) + bits BinOp.xor IntKind.u32 (bits BinOp.and IntKind.u32 s4 s5) (bits BinOp.and IntKind.u32 (bits BinOp.xor IntKind.u32 IntKind.u32.max s4) s6)) + kc) + x)
def t2W (s0 s1 s2 : Nat) : Int := IntKind.u32.wrap ((Sha.turned s0 [2, 13, 22] : Nat) + bits BinOp.xor IntKind.u32 (bits BinOp.xor IntKind.u32 (bits BinOp.and IntKind.u32 s0 s1) (bits BinOp.and IntKind.u32 s0 s2)) (bits BinOp.and IntKind.u32 s1 s2))
set_option maxRecDepth 100000 in
set_option maxHeartbeats 800000 in
theorem round_walk (b : Nat) (T : TypeId) (s0 s1 s2 s3 s4 s5 s6 s7 : Nat) (i x kc : Nat) (w : World) (h3 : 3 < w.heap.size)
    (hB : w.heap[b]? = some (.cells #[.int .u32 s0, .int .u32 s1, .int .u32 s2, .int .u32 s3, .int .u32 s4, .int .u32 s5, .int .u32 s6, .int .u32 s7] T (0, 0)))
    (hi : i < 64) (hk : w.cell? ⟨3, i, none⟩ = some (.int .u32 kc))
    (hs4 : s4 < 4294967296) (hs0 : s0 < 4294967296) :
    Calls Tryd.prog 66 #[.pointer (some ⟨b, 0, none⟩), .int .i64 (i : Int), .int .u32 (x : Int)] w fun e w' => e = .returned (.tuple #[]) ∧
      w'.heap[b]? = some (.cells #[.int .u32 ((t1W s4 s5 s6 s7 kc x + t2W s0 s1 s2) % 4294967296), .int .u32 s0, .int .u32 s1, .int .u32 s2, .int .u32 ((s3 + t1W s4 s5 s6 s7 kc x) % 4294967296), .int .u32 s4, .int .u32 s5, .int .u32 s6] T (0, 0)) ∧ Far (· = b) w w' := by
  have hi1 : (0 : Int) ≤ (i : Int) := by omega
  have hi2 : (i : Int) < 64 := by omega
  have hb : b < w.heap.size := lt_of_heap hB
  have c0 : w.cell? ⟨b, 0, none⟩ = some (.int .u32 s0) := cell_of hB 0
  have c1 : w.cell? ⟨b, 1, none⟩ = some (.int .u32 s1) := cell_of hB 1
  have c2 : w.cell? ⟨b, 2, none⟩ = some (.int .u32 s2) := cell_of hB 2
  have c3 : w.cell? ⟨b, 3, none⟩ = some (.int .u32 s3) := cell_of hB 3
  have c4 : w.cell? ⟨b, 4, none⟩ = some (.int .u32 s4) := cell_of hB 4
  have c5 : w.cell? ⟨b, 5, none⟩ = some (.int .u32 s5) := cell_of hB 5
  have c6 : w.cell? ⟨b, 6, none⟩ = some (.int .u32 s6) := cell_of hB 6
  have c7 : w.cell? ⟨b, 7, none⟩ = some (.int .u32 s7) := cell_of hB 7
  have HB := Lib.hid hB
  clear hB
  go_enter Tryd.func66, Tryd.ntmps66
  go_wp2_with fail
  go_quiet (fail)
  go_wp2_with fail
  go_region_held3 (fun w' => w'.cell? ⟨w.heap.size, 7, none⟩ = some (.int .u32 s7) ∧ w'.cell? ⟨w.heap.size, 5, none⟩ = some (.int .u32 s5) ∧ w'.cell? ⟨w.heap.size, 6, none⟩ = some (.int .u32 s6) ∧ w'.cell? ⟨3, i, none⟩ = some (.int .u32 kc)) (go_keep) (first | (go_at_call 83; refine (turned_e s4 _ _ _ hs4 ?_ ?_ ?_).mono ?_; (go_simp); (go_simp); (go_simp); rintro e w1 ⟨rfl, rfl⟩))
  rename_i hsg
  clear hsg
  go_wp2_with fail
  generalize hT : IntKind.u32.wrap (IntKind.u32.wrap (IntKind.u32.wrap (IntKind.u32.wrap (s7 + (Sha.turned s4 [6, 11, 25] : Nat)) + bits BinOp.xor IntKind.u32 (bits BinOp.and IntKind.u32 s4 s5) (bits BinOp.and IntKind.u32 (bits BinOp.xor IntKind.u32 IntKind.u32.max s4) s6)) + kc) + x) = T1
  have HT := Lib.hid hT
  clear hT
  go_region_held3 (fun w' => w'.cell? ⟨w.heap.size, 1, none⟩ = some (.int .u32 s1) ∧ w'.cell? ⟨w.heap.size, 2, none⟩ = some (.int .u32 s2)) (go_keep) (first | (go_at_call 83; refine (turned_a s0 _ _ _ hs0 ?_ ?_ ?_).mono ?_; (go_simp); (go_simp); (go_simp); rintro e w1 ⟨rfl, rfl⟩))
  go_wp2_with fail
  generalize hT2 : IntKind.u32.wrap ((Sha.turned s0 [2, 13, 22] : Nat) + bits BinOp.xor IntKind.u32 (bits BinOp.xor IntKind.u32 (bits BinOp.and IntKind.u32 s0 s1) (bits BinOp.and IntKind.u32 s0 s2)) (bits BinOp.and IntKind.u32 s1 s2)) = T2
  have HT2 := Lib.hid hT2
  clear hT2
  generalize hW : World.drew _ = W
  have hgr : Far (· = b) w W := by rw [← hW]; exact (((((Far.refl _ _).alloc _).drewN _).alloc _).alloc _).drew
  have hgr1 : Below (w.heap.size + 1) (w.alloc (.cells #[.int .u32 s0, .int .u32 s1, .int .u32 s2, .int .u32 s3, .int .u32 s4, .int .u32 s5, .int .u32 s6, .int .u32 s7] 78)) W := by rw [← hW]; exact (((below_drewN (Below.refl _ _) _).alloc (by simp) _).alloc (by simp) _).drew
  have hBW : W.heap[b]? = some (.cells #[.int .u32 s0, .int .u32 s1, .int .u32 s2, .int .u32 s3, .int .u32 s4, .int .u32 s5, .int .u32 s6, .int .u32 s7] T (0, 0)) := by rw [← hW]; exact alloc_heap_old _ (alloc_heap_old _ (alloc_heap_old _ HB.out))
  have n0 : W.cell? ⟨w.heap.size, 0, none⟩ = some (.int .u32 s0) := (hgr1.cell (p := ⟨w.heap.size, 0, none⟩) (Nat.lt_succ_self _)).trans (World.cell?_alloc_new _ _ _ _)
  have n1 : W.cell? ⟨w.heap.size, 1, none⟩ = some (.int .u32 s1) := (hgr1.cell (p := ⟨w.heap.size, 1, none⟩) (Nat.lt_succ_self _)).trans (World.cell?_alloc_new _ _ _ _)
  have n2 : W.cell? ⟨w.heap.size, 2, none⟩ = some (.int .u32 s2) := (hgr1.cell (p := ⟨w.heap.size, 2, none⟩) (Nat.lt_succ_self _)).trans (World.cell?_alloc_new _ _ _ _)
  have n3 : W.cell? ⟨w.heap.size, 3, none⟩ = some (.int .u32 s3) := (hgr1.cell (p := ⟨w.heap.size, 3, none⟩) (Nat.lt_succ_self _)).trans (World.cell?_alloc_new _ _ _ _)
  have n4 : W.cell? ⟨w.heap.size, 4, none⟩ = some (.int .u32 s4) := (hgr1.cell (p := ⟨w.heap.size, 4, none⟩) (Nat.lt_succ_self _)).trans (World.cell?_alloc_new _ _ _ _)
  have n5 : W.cell? ⟨w.heap.size, 5, none⟩ = some (.int .u32 s5) := (hgr1.cell (p := ⟨w.heap.size, 5, none⟩) (Nat.lt_succ_self _)).trans (World.cell?_alloc_new _ _ _ _)
  have n6 : W.cell? ⟨w.heap.size, 6, none⟩ = some (.int .u32 s6) := (hgr1.cell (p := ⟨w.heap.size, 6, none⟩) (Nat.lt_succ_self _)).trans (World.cell?_alloc_new _ _ _ _)
  have n7 : W.cell? ⟨w.heap.size, 7, none⟩ = some (.int .u32 s7) := (hgr1.cell (p := ⟨w.heap.size, 7, none⟩) (Nat.lt_succ_self _)).trans (World.cell?_alloc_new _ _ _ _)
  have hsz : w.heap.size < W.heap.size := Nat.lt_of_lt_of_le (by simp) hgr1.size
  have hbW : b < W.heap.size := by omega
  have hcopy : (Builtin.copy_ #[111, 111] 3 #[.slice (some ⟨b, 1, none⟩) 7 7, .slice (some ⟨w.heap.size, 0, none⟩) 7 8]).run Tryd.prog W.drew = .ok (.int .i64 7) (W.drew.setRow b #[.int .u32 s0, .int .u32 s0, .int .u32 s1, .int .u32 s2, .int .u32 s3, .int .u32 s4, .int .u32 s5, .int .u32 s6]) := by
    refine run_copy_row (P := Tryd.prog) W.drew 111 111 3 73 b 1 7 7 ⟨w.heap.size, 0, none⟩ 7 8 #[.int .u32 s0, .int .u32 s1, .int .u32 s2, .int .u32 s3, .int .u32 s4, .int .u32 s5, .int .u32 s6, .int .u32 s7] T [.int .u32 s0, .int .u32 s1, .int .u32 s2, .int .u32 s3, .int .u32 s4, .int .u32 s5, .int .u32 s6] Tryd.underlying111 elem73 hBW rfl ?_ (by simp) ?_
    · intro j v hj
      match j, hj with
      | 0, hj => cases hj; exact n0
      | 1, hj => cases hj; exact n1
      | 2, hj => cases hj; exact n2
      | 3, hj => cases hj; exact n3
      | 4, hj => cases hj; exact n4
      | 5, hj => cases hj; exact n5
      | 6, hj => cases hj; exact n6
      | n + 7, hj => cases hj
    · simp [Value.oneCell']
  have hr : (W.drew.setRow b #[.int .u32 s0, .int .u32 s0, .int .u32 s1, .int .u32 s2, .int .u32 s3, .int .u32 s4, .int .u32 s5, .int .u32 s6]).heap[b]? = some (.cells #[.int .u32 s0, .int .u32 s0, .int .u32 s1, .int .u32 s2, .int .u32 s3, .int .u32 s4, .int .u32 s5, .int .u32 s6] T (0, 0)) := setRow_heap _ _ _ _ _ _ hBW
  have HC := Lib.hid hcopy
  clear hW hgr1 hcopy c0 c1 c2 c3 c4 c5 c6 c7 hk hBW
  have hne : w.heap.size ≠ b := by omega
  have hm3 : (W.drew.setRow b #[.int .u32 s0, .int .u32 s0, .int .u32 s1, .int .u32 s2, .int .u32 s3, .int .u32 s4, .int .u32 s5, .int .u32 s6]).cell? ⟨w.heap.size, 3, none⟩ = some (.int .u32 s3) := (cell_setRow_other W.drew b _ ⟨w.heap.size, 3, none⟩ hne).trans n3
  have hgr2 : Far (· = b) w (W.drew.setRow b #[.int .u32 s0, .int .u32 s0, .int .u32 s1, .int .u32 s2, .int .u32 s3, .int .u32 s4, .int .u32 s5, .int .u32 s6]) := hgr.drew.setRow (fun _ => rfl) _
  clear n0 n1 n2 n3 n4 n5 n6 n7 hgr
  have hsz2 : w.heap.size < (W.drew.setRow b #[.int .u32 s0, .int .u32 s0, .int .u32 s1, .int .u32 s2, .int .u32 s3, .int .u32 s4, .int .u32 s5, .int .u32 s6]).heap.size := by simpa using hsz
  generalize hX : W.drew.setRow b #[.int .u32 s0, .int .u32 s0, .int .u32 s1, .int .u32 s2, .int .u32 s3, .int .u32 s4, .int .u32 s5, .int .u32 s6] = X at HC hr hm3 hgr2 hsz2
  clear hX
  have hcp := HC.out
  clear HC
  go_region
  clear hcp
  have e0 : X.cell? ⟨b, 0, none⟩ = some (.int .u32 s0) := cell_of hr 0
  have e4 : X.cell? ⟨b, 4, none⟩ = some (.int .u32 s3) := cell_of hr 4
  have f0 : X.frozen? ⟨b, 0, none⟩ = false := frozen_of hr 0
  have f4 : X.frozen? ⟨b, 4, none⟩ = false := frozen_of hr 4
  go_wp2_with fail
  go_region
  go_end0
  refine ⟨rfl, ?_, ((hgr2.setCell (fun _ => rfl) _).setCell (fun _ => rfl) _).drew⟩
  have e1 : t1W s4 s5 s6 s7 kc x = T1 := HT.out
  have e2 : t2W s0 s1 s2 = T2 := HT2.out
  rw [e1, e2]
  exact setCell_heap (setCell_heap hr 0 _) 4 _
end Go.Proofs.YtfafidholldjlaaDoor
