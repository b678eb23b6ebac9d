/- errors.As at the error type of package digest, walked; check, told. -/
import Derived.Test.YtfafidholldjlaaDoorE1
set_option linter.unusedVariables false
set_option linter.unusedSimpArgs false
namespace Go.Proofs.YtfafidholldjlaaDoor
open Go.RowKit Go.Extern.Stop Go.Stop Go.Extern
set_option maxHeartbeats 4000000 in
theorem as_hit (n : Int) (t : Nat) (old : Value) (w : World) (hg : w.cell? ⟨4, 0, none⟩ = some (.iface 157 (.agg #[.pointer (some ⟨6, 67, none⟩)]))) (h4 : 4 < w.heap.size) (htl : t < w.heap.size) (ht0 : w.cell? ⟨t, 0, none⟩ = some old) (hf0 : w.frozen? ⟨t, 0, none⟩ = false) :
    Calls Tryd.prog 84 #[.iface 114 (.agg #[.int .i64 n]), .iface 116 (.pointer (some ⟨t, 0, none⟩))] w fun ev w' => ev = .returned (.bool true) ∧ Far (· = t) w w' := by
  have h95 := @run_callFunc_extern Tryd.prog 95 _ (fun args => ReflectliteValue.unpack (args.getD 0 (.tuple #[]))) Tryd.func95 (by kernel_rfl) (by kernel_rfl) (by kernel_rfl) (by kernel_rfl)
  have h96 := @run_callFunc_extern Tryd.prog 96 _ (ReflectliteValue.methodAny (ReflectliteValue.valueError "reflectlite.Value.Type" 0) (fun t _ _ _ => ReflectliteType.toType t)) Tryd.func96 (by kernel_rfl) (by kernel_rfl) (by kernel_rfl) (by kernel_rfl)
  have h97 := @run_callFunc_extern Tryd.prog 97 _ (ReflectliteValue.method (ReflectliteValue.valueError "reflectlite.Value.IsNil" 0) ReflectliteValue.isNil) Tryd.func97 (by kernel_rfl) (by kernel_rfl) (by kernel_rfl) (by kernel_rfl)
  have h129 := @run_callFunc_extern Tryd.prog 129 _ (ReflectliteType.abiMethod fun t => do pure (.int .u8 (← Rtype.kind t))) Tryd.func129 (by kernel_rfl) (by kernel_rfl) (by kernel_rfl) (by kernel_rfl)
  have h140 := @run_callFunc_extern Tryd.prog 140 _ (ReflectliteType.method ReflectliteType.elem) Tryd.func140 (by kernel_rfl) (by kernel_rfl) (by kernel_rfl) (by kernel_rfl)
  have h141 := @run_callFunc_extern Tryd.prog 141 _ (ReflectliteType.relation "Implements" ReflectliteType.implements_) Tryd.func141 (by kernel_rfl) (by kernel_rfl) (by kernel_rfl) (by kernel_rfl)
  have h92 := @run_callFunc_extern Tryd.prog 92 _ ReflectliteType.typeOf Tryd.func92 (by kernel_rfl) (by kernel_rfl) (by kernel_rfl) (by kernel_rfl)
  have h138 := @run_callFunc_extern Tryd.prog 138 _ (ReflectliteType.relation "AssignableTo" ReflectliteType.assignableTo) Tryd.func138 (by kernel_rfl) (by kernel_rfl) (by kernel_rfl) (by kernel_rfl)
  have h107 := @run_callFunc_extern Tryd.prog 107 _ (ReflectliteValue.method (ReflectliteValue.valueError "reflectlite.Value.Elem" 0) ReflectliteValue.elem) Tryd.func107 (by kernel_rfl) (by kernel_rfl) (by kernel_rfl) (by kernel_rfl)
  have h108 := @run_callFunc_extern Tryd.prog 108 _ ReflectliteValue.set Tryd.func108 (by kernel_rfl) (by kernel_rfl) (by kernel_rfl) (by kernel_rfl)
  have tO := asTypeOfL
  have mA := asMethodAssignableTo
  have aL := asAssignableL
  have vL := asValueOfL
  have vP := asValueOfP
  have tP := asTypeP
  have mK := asMethodKind
  have mE := asMethodElem
  have mI := asMethodImplements
  have kP := asKindP
  have kL := asKindL
  have eP := asElemP
  have iL := asImplementsL
  have n8 := asIsNilP ⟨w.heap.size, 0, none⟩ ⟨t, 0, none⟩ ((w.alloc (.cells #[.pointer (some ⟨t, 0, none⟩)] 116)).alloc (.cells #[.pointer (some ⟨6, 116, none⟩), .pointer (some ⟨w.heap.size, 0, none⟩), .int .u64 150] 137)) (by simp)
  have hg2 : ((w.alloc (.cells #[.pointer (some ⟨t, 0, none⟩)] 116)).alloc (.cells #[.pointer (some ⟨6, 116, none⟩), .pointer (some ⟨w.heap.size, 0, none⟩), .int .u64 150] 137)).cell? ⟨4, 0, none⟩ = some (.iface 157 (.agg #[.pointer (some ⟨6, 67, none⟩)])) := by
    exact new_past (by simp; omega) (new_past h4 hg)
  have el := asElemV ⟨w.heap.size, 0, none⟩ ⟨t, 0, none⟩ (((w.alloc (.cells #[.pointer (some ⟨t, 0, none⟩)] 116)).alloc (.cells #[.pointer (some ⟨6, 116, none⟩), .pointer (some ⟨w.heap.size, 0, none⟩), .int .u64 150] 137)).alloc (.cells #[.pointer (some ⟨6, 116, none⟩), .pointer (some ⟨w.heap.size, 0, none⟩), .int .u64 150] 137)) (by rw [World.cell?_alloc_lt _ _ ⟨w.heap.size, 0, none⟩ (by simp; omega)]; simp)
  have st := asSetL t (w.heap.size + 1 + 1 + 1) old n ((((w.alloc (.cells #[.pointer (some ⟨t, 0, none⟩)] 116)).alloc (.cells #[.pointer (some ⟨6, 116, none⟩), .pointer (some ⟨w.heap.size, 0, none⟩), .int .u64 150] 137)).alloc (.cells #[.pointer (some ⟨6, 116, none⟩), .pointer (some ⟨w.heap.size, 0, none⟩), .int .u64 150] 137)).alloc (.cells #[.int .i64 n] 114))
    (new_at (by simp) rfl)
    (new_past (by simp; omega) (new_past (by simp; omega) (new_past (by simp; omega) (new_past htl ht0))))
    (frozen_past (by simp; omega) (frozen_past (by simp; omega) (frozen_past (by simp; omega) (frozen_past htl hf0))))
  go_enter Tryd.func84, Tryd.ntmps84
  go_wp2
  refine wp_loop_rounds 1 ?_
  rw [rounds_succ]
  go_wp2
  go_ret
  exact ⟨rfl, Far.setCell (D := (· = t)) (p := ⟨t, 0, none⟩) (((((Far.refl _ _).alloc _).alloc _).alloc _).alloc _) (fun _ => rfl) _⟩
theorem check_ok (n : Int) (h0 : 0 ≤ n) (h1 : n ≤ 100000) (w : World) : Calls Tryd.prog 70 #[.int .i64 n] w fun e w' => e = .returned .nilIface ∧ w = w' := by
  go_enter Tryd.func70, Tryd.ntmps70
  go_wp2_with fail
  go_ret
  exact ⟨rfl, rfl⟩
theorem check_bad (n : Int) (hn : n < 0 ∨ 100000 < n) (w : World) : Calls Tryd.prog 70 #[.int .i64 n] w fun e w' => (∃ m : Int, e = .returned (.iface 114 (.agg #[.int .i64 m]))) ∧ w = w' := by
  rcases hn with h | h
  · go_enter Tryd.func70, Tryd.ntmps70
    go_wp2_with fail
    go_ret
    exact ⟨⟨_, rfl⟩, rfl⟩
  · have h' : ¬ n < 0 := by omega
    go_enter Tryd.func70, Tryd.ntmps70
    go_wp2_with fail
    go_ret
    exact ⟨⟨_, rfl⟩, rfl⟩
theorem dtold_nil (w : World) : Calls Tryd.prog 71 #[.nilIface] w fun e w' => e = .returned (.int .i64 0) ∧ Below w.heap.size w w' := by
  go_enter Tryd.func71, Tryd.ntmps71
  go_wp2_with (go_at_call 84; refine (as_nil _ _).mono ?_; rintro e w' ⟨rfl, rfl⟩)
  go_ret
  exact ⟨rfl, (Below.refl _ _).alloc (Nat.le_refl _) _⟩
theorem dtold_long (m : Int) (w : World) (hg : w.cell? ⟨4, 0, none⟩ = some (.iface 157 (.agg #[.pointer (some ⟨6, 67, none⟩)]))) (h4 : 4 < w.heap.size) :
    Calls Tryd.prog 71 #[.iface 114 (.agg #[.int .i64 m])] w fun e w' => e = .returned (.int .i64 20) ∧ Below w.heap.size w w' := by
  have Hg := Lib.hid hg
  clear hg
  go_enter Tryd.func71, Tryd.ntmps71
  go_wp2_with fail
  refine (as_hit m w.heap.size _ _ (new_past h4 Hg.out) (by simp; omega) (by simp) (new_at rfl rfl) (frozen_of (alloc_heap_at _ _ _ rfl) 0)).mono ?_
  rintro e w1 ⟨rfl, hf⟩
  have HF := Lib.hid hf
  clear hf
  go_wp2_with fail
  go_ret
  exact ⟨rfl, ((Below.refl _ w).alloc (Nat.le_refl _) _).trans (HF.out.to_below (by simp) (by omega))⟩
end Go.Proofs.YtfafidholldjlaaDoor
