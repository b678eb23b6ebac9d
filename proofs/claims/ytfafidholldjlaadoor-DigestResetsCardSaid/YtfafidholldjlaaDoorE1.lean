/- errors.As over the one error type of package digest, by its contracts; check, told. -/
import Derived.Test.YtfafidholldjlaaDoorBase
import Derived.Test.YtfafidholldjlaaDoorFar
import Derived.Lib.Hide
import Derived.LaidEql
import Derived.Stop.Asserts
import Derived.RowKitTokens
set_option linter.unusedVariables false
set_option linter.unusedSimpArgs false
namespace Go.Proofs.YtfafidholldjlaaDoor
open Go.RowKit Go.Extern.Stop Go.Stop Go.Extern
theorem as_nil (t : Value) (w : World) :
    Calls Tryd.prog 84 #[.nilIface, t] w fun e w' => e = .returned (.bool false) ∧ w = w' := by
  go_enter Tryd.func84, Tryd.ntmps84
  go_wp2
  go_ret
  exact ⟨rfl, rfl⟩
theorem asValueOfP (t : Addr) (w : World) : (ReflectliteValue.unpack (.iface 116 (.pointer (some t)))).run Tryd.prog w
    = .ok (.agg #[.pointer (some ⟨6, 116, none⟩), .pointer (some ⟨w.heap.size, 0, none⟩), .int .u64 150]) (w.alloc (.cells #[.pointer (some t)] 116)) := by kernel_rfl
theorem asTypeP (a : Addr) (w : World) : (ReflectliteValue.methodAny (ReflectliteValue.valueError "reflectlite.Value.Type" 0) (fun t _ _ _ => ReflectliteType.toType t) #[.agg #[.pointer (some ⟨6, 116, none⟩), .pointer (some a), .int .u64 150]]).run Tryd.prog w
    = .ok (.iface 157 (.agg #[.pointer (some ⟨6, 116, none⟩)])) w := by kernel_rfl
theorem asMethodKind (h : Value) (w : World) : (Go.method 303 157 (.agg #[h]) "Kind").run Tryd.prog w = .ok (129, h) w := by kernel_rfl
theorem asKindP (w : World) : ((ReflectliteType.abiMethod fun t => (fun a : Nat => Value.int IntKind.u8 (a : Int)) <$> Rtype.kind t) #[.pointer (some ⟨6, 116, none⟩)]).run Tryd.prog w = .ok (.int .u8 22) w := by kernel_rfl
theorem asKindL (w : World) : ((ReflectliteType.abiMethod fun t => (fun a : Nat => Value.int IntKind.u8 (a : Int)) <$> Rtype.kind t) #[.pointer (some ⟨6, 114, none⟩)]).run Tryd.prog w = .ok (.int .u8 25) w := by kernel_rfl
theorem rlm (z : Sem Value) (f : TypeId → Addr → Nat → Nat → Sem Value) (v : Value) :
    ReflectliteValue.method z f #[v] = (do match ← ReflectliteValue.parts v with | none => z | some (t, a, fl) => f t a fl (fl % 32)) := rfl
theorem asPartsP (a : Addr) (w : World) : (ReflectliteValue.parts (.agg #[.pointer (some ⟨6, 116, none⟩), .pointer (some a), .int .u64 150])).run Tryd.prog w = .ok (some (116, a, 150)) w := by kernel_rfl
theorem asIsNilP (a p : Addr) (W : World) (ha : W.cell? a = some (.pointer (some p))) :
    (ReflectliteValue.method (ReflectliteValue.valueError "reflectlite.Value.IsNil" 0) ReflectliteValue.isNil #[.agg #[.pointer (some ⟨6, 116, none⟩), .pointer (some a), .int .u64 150]]).run Tryd.prog W = .ok (.bool false) W := by
  rw [rlm]
  simp only [Sem.run_bind, asPartsP, Result.andThen]
  simp [ReflectliteValue.isNil, loadVar, isAgg, underlying, Tryd.underlying116, ha, Result.andThen]
theorem asMethodElem (h : Value) (w : World) : (Go.method 303 157 (.agg #[h]) "Elem").run Tryd.prog w = .ok (140, .agg #[h]) w := by kernel_rfl
theorem asMethodImplements (h : Value) (w : World) : (Go.method 303 157 (.agg #[h]) "Implements").run Tryd.prog w = .ok (141, .agg #[h]) w := by kernel_rfl
theorem asMethodAssignableTo (h : Value) (w : World) : (Go.method 303 157 (.agg #[h]) "AssignableTo").run Tryd.prog w = .ok (138, .agg #[h]) w := by kernel_rfl
theorem asElemP (w : World) : (ReflectliteType.method ReflectliteType.elem #[.agg #[.pointer (some ⟨6, 116, none⟩)]]).run Tryd.prog w = .ok (.iface 157 (.agg #[.pointer (some ⟨6, 114, none⟩)])) w := by kernel_rfl
theorem asImplementsL (w : World) : (ReflectliteType.relation "Implements" ReflectliteType.implements_ #[.agg #[.pointer (some ⟨6, 114, none⟩)], .iface 157 (.agg #[.pointer (some ⟨6, 67, none⟩)])]).run Tryd.prog w = .ok (.bool true) w := by kernel_rfl
theorem asTypeOfL (v : Value) (w : World) : (ReflectliteType.typeOf #[.iface 114 v]).run Tryd.prog w = .ok (.iface 157 (.agg #[.pointer (some ⟨6, 114, none⟩)])) w := by kernel_rfl
theorem asAssignableL (w : World) : (ReflectliteType.relation "AssignableTo" ReflectliteType.assignableTo #[.agg #[.pointer (some ⟨6, 114, none⟩)], .iface 157 (.agg #[.pointer (some ⟨6, 114, none⟩)])]).run Tryd.prog w = .ok (.bool true) w := by kernel_rfl
theorem asValueOfL (n : Int) (w : World) : (ReflectliteValue.unpack (.iface 114 (.agg #[.int .i64 n]))).run Tryd.prog w
    = .ok (.agg #[.pointer (some ⟨6, 114, none⟩), .pointer (some ⟨w.heap.size, 0, none⟩), .int .u64 153]) (w.alloc (.cells #[.int .i64 n] 114)) := by kernel_rfl
theorem asElemOfP (w : World) : (Rtype.elem? 116).run Tryd.prog w = .ok (some 114) w := by kernel_rfl
theorem asMkL (p : Addr) (w : World) : (ReflectliteValue.mk 114 p ReflectliteValue.flagAddr).run Tryd.prog w = .ok (.agg #[.pointer (some ⟨6, 114, none⟩), .pointer (some p), .int .u64 409]) w := by kernel_rfl
theorem asElemV (a p : Addr) (W : World) (ha : W.cell? a = some (.pointer (some p))) :
    (ReflectliteValue.method (ReflectliteValue.valueError "reflectlite.Value.Elem" 0) ReflectliteValue.elem #[.agg #[.pointer (some ⟨6, 116, none⟩), .pointer (some a), .int .u64 150]]).run Tryd.prog W
      = .ok (.agg #[.pointer (some ⟨6, 114, none⟩), .pointer (some p), .int .u64 409]) W := by
  rw [rlm]
  simp only [Sem.run_bind, asPartsP, Result.andThen]
  simp [ReflectliteValue.elem, loadVar, isAgg, underlying, Tryd.underlying116, ha, Result.andThen, asElemOfP, asMkL]
theorem rls (v x : Value) : ReflectliteValue.set #[v, x] = (do
    let (some (dst, a, fl), some (src, b, _)) := (← ReflectliteValue.parts v, ← ReflectliteValue.parts x)
      | unsupported (.noEntry "extern/(internal/reflectlite.Value).Set.zeroValue")
    if fl / ReflectliteValue.flagAddr % 2 == 0 then unsupported (.noEntry "extern/(internal/reflectlite.Value).Set.unaddressable")
    let val ← loadVar src b
    if ← Rtype.directlyAssignable dst src then storeVar dst a val
    else if ← Rtype.implements dst src then
      if (← Rtype.kind src) == 20 then
        match val with
        | .nilIface => unsupported (.noEntry "extern/reflectlite: a nil value of one interface type handed on as a value of another")
        | _ => storeVar dst a val
      else storeVar dst a (.iface src val)
    else panicString ("reflectlite.Set: value of type " ++ (← Rtype.spelt src) ++ " is not assignable to type " ++ (← Rtype.spelt dst))
    pure (.tuple #[])) := rfl
theorem asPartsA (a : Addr) (w : World) : (ReflectliteValue.parts (.agg #[.pointer (some ⟨6, 114, none⟩), .pointer (some a), .int .u64 409])).run Tryd.prog w = .ok (some (114, a, 409)) w := by kernel_rfl
theorem asPartsL (a : Addr) (w : World) : (ReflectliteValue.parts (.agg #[.pointer (some ⟨6, 114, none⟩), .pointer (some a), .int .u64 153])).run Tryd.prog w = .ok (some (114, a, 153)) w := by kernel_rfl
theorem asDirectL (w : World) : (Rtype.directlyAssignable 114 114).run Tryd.prog w = .ok true w := by kernel_rfl
theorem asSetL (t b : Nat) (old : Value) (n : Int) (W : World) (hb : W.cell? ⟨b, 0, none⟩ = some (.int .i64 n)) (ht : W.cell? ⟨t, 0, none⟩ = some old) (hf : W.frozen? ⟨t, 0, none⟩ = false) :
    (ReflectliteValue.set #[.agg #[.pointer (some ⟨6, 114, none⟩), .pointer (some ⟨t, 0, none⟩), .int .u64 409], .agg #[.pointer (some ⟨6, 114, none⟩), .pointer (some ⟨b, 0, none⟩), .int .u64 153]]).run Tryd.prog W
      = .ok (.tuple #[]) (W.setCell ⟨t, 0, none⟩ (.int .i64 n)) := by
  rw [rls]
  simp only [Sem.run_bind, asPartsA, asPartsL, Result.andThen]
  simp [ReflectliteValue.flagAddr, loadVar, isAgg, underlying, Tryd.underlying114, Result.andThen, asDirectL, storeVar, Value.cells, storeCells, Addr.add]
  have hl : (loadCells ⟨b, 0, none⟩ 1).run Tryd.prog W = .ok #[.int .i64 n] W := by
    have h := run_loadCells_list (P := Tryd.prog) W ⟨b, 0, none⟩ [.int .i64 n] (by
      intro j v hj
      match j, hj with
      | 0, hj => simp at hj; subst hj; simpa [Addr.add] using hb
      | j + 1, hj => simp at hj)
    simpa using h
  rw [hl]
  simp [storeCells, Addr.add]
  rw [run_store Tryd.prog W ⟨t, 0, none⟩ _ _ (by rfl)]
  simp [ht, hf]
end Go.Proofs.YtfafidholldjlaaDoor
