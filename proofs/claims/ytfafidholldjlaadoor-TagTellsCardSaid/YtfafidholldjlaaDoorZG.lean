/- Sums of messages in plain Lean: blocks one after the other, what is left, a message's end. -/
import Derived.Test.YtfafidholldjlaaDoorZB
import Derived.Test.YtfafidholldjlaaDoorZA
import Derived.Lib.Hide
import Derived.LaidEql
import Derived.Stop.Asserts
import Derived.RowKitTokens
import Derived.Lib.AppendZeros
import Derived.Laws.CopyOwn
import Derived.Laws.MakeOwn
set_option linter.unusedVariables false
set_option linter.unusedSimpArgs false
namespace Sha
/-- A list's byte at a place. -/
def byteOf (l : List UInt8) (i : Nat) : Nat := (l.getD i 0).toNat
theorem byteOf_lt (l : List UInt8) (i : Nat) : byteOf l i < 256 := UInt8.toNat_lt _
/-- The state after so many whole blocks of a list. -/
def St.after (s : St) (l : List UInt8) : Nat → St
  | 0 => s
  | k + 1 => (St.after s l k).compress (fun i => byteOf l (64 * k + i))
theorem be_congr {b c : Nat → Nat} (t : Nat) (h : ∀ i, i < 4 → b (4 * t + i) = c (4 * t + i)) : be b t = be c t := by
  unfold be
  have h0 := h 0 (by decide)
  have h1 := h 1 (by decide)
  have h2 := h 2 (by decide)
  have h3 := h 3 (by decide)
  simp only [Nat.add_zero] at h0
  rw [h0, h1, h2, h3]
theorem sched_congr {b c : Nat → Nat} (h : ∀ i, i < 64 → b i = c i) : ∀ t, sched b t = sched c t
  | 0 => rfl
  | t + 1 => by
    have ih := sched_congr h t
    unfold sched
    rw [ih]
    by_cases ht : t < 16
    · rw [if_pos ht, if_pos ht, be_congr t (fun i hi => h _ (by omega))]
    · rw [if_neg ht, if_neg ht]
theorem word_congr {b c : Nat → Nat} (h : ∀ i, i < 64 → b i = c i) (t : Nat) : word b t = word c t := by
  unfold word
  rw [sched_congr h t]
  by_cases ht : t < 16
  · rw [if_pos ht, if_pos ht, be_congr t (fun i hi => h _ (by omega))]
  · rw [if_neg ht, if_neg ht]
theorem St.rounds_congr (s : St) {b c : Nat → Nat} (h : ∀ i, i < 64 → b i = c i) : ∀ t, s.rounds b t = s.rounds c t
  | 0 => rfl
  | t + 1 => by unfold St.rounds; rw [St.rounds_congr s h t, word_congr h t]
theorem St.compress_congr (s : St) {b c : Nat → Nat} (h : ∀ i, i < 64 → b i = c i) : s.compress b = s.compress c := by
  unfold St.compress
  rw [St.rounds_congr s h]
theorem St.after_ok {s : St} (hs : s.ok) (l : List UInt8) : ∀ k, (s.after l k).ok
  | 0 => hs
  | k + 1 => St.add_ok _ _
theorem St.after_congr (s : St) {l m : List UInt8} : ∀ k, (∀ i, i < 64 * k → byteOf l i = byteOf m i) → s.after l k = s.after m k
  | 0, _ => rfl
  | k + 1, h => by
    unfold St.after
    rw [St.after_congr s k (fun i hi => h i (by omega)), St.compress_congr _ (fun i hi => h (64 * k + i) (by omega))]
theorem St.after_add (s : St) (l : List UInt8) (j : Nat) : ∀ k, s.after l (j + k) = (s.after l j).after (l.drop (64 * j)) k
  | 0 => rfl
  | k + 1 => by
    show St.after s l (j + k + 1) = _
    unfold St.after
    rw [St.after_add s l j k]
    refine St.compress_congr _ (fun i hi => ?_)
    unfold byteOf
    rw [List.getD_eq_getElem?_getD, List.getD_eq_getElem?_getD, List.getElem?_drop]
    congr 3
    omega
theorem byteOf_append_left (l m : List UInt8) (i : Nat) (h : i < l.length) : byteOf (l ++ m) i = byteOf l i := by
  unfold byteOf
  rw [List.getD_eq_getElem?_getD, List.getD_eq_getElem?_getD, List.getElem?_append_left h]
/-- What was written before, with what is written now. -/
theorem St.after_append (s : St) (l m : List UInt8) (j k : Nat) (h : 64 * j ≤ l.length) :
    (s.after l j).after (l.drop (64 * j) ++ m) k = s.after (l ++ m) (j + k) := by
  rw [St.after_add, St.after_congr s j (l := l ++ m) (m := l) (fun i hi => byteOf_append_left l m i (by omega)), List.drop_append_of_le_length h]
/-- A message's end. -/
def zeros (n : Nat) : Nat := (119 - n % 64) % 64
def endOf (n : Nat) : List UInt8 := 128 :: (List.replicate (zeros n) 0 ++ [0, 0, 0, 0, UInt8.ofNat (8 * n / 16777216), UInt8.ofNat (8 * n / 65536), UInt8.ofNat (8 * n / 256), UInt8.ofNat (8 * n)])
theorem endOf_length (n : Nat) : (endOf n).length = 9 + zeros n := by
  simp [endOf]
  omega
theorem end_whole (n : Nat) : (n + (endOf n).length) % 64 = 0 := by
  rw [endOf_length]
  unfold zeros
  omega
/-- A message's state: that of its blocks, its end among them. -/
def sumOf (m : List UInt8) : St := St.first.after (m ++ endOf m.length) ((m ++ endOf m.length).length / 64)
end Sha
/- errors.As over the one error type of package digest, by its contracts; check, told. -/
set_option linter.unusedVariables false
set_option linter.unusedSimpArgs false
namespace Go.Proofs.YtfafidholldjlaaDoor
open Go.RowKit Go.Extern.Stop Go.Stop Go.Extern
theorem as_nil (t : Value) (w : World) :
    Calls Tryd.prog 84 #[.nilIface, t] w fun e w' => e = .returned (.bool false) ∧ w = w' := by
  go_enter Tryd.func84, Tryd.ntmps84
  go_wp2
  go_ret
  exact ⟨rfl, rfl⟩
theorem asValueOfP (t : Addr) (w : World) : (ReflectliteValue.unpack (.iface 116 (.pointer (some t)))).run Tryd.prog w
    = .ok (.agg #[.pointer (some ⟨6, 116, none⟩), .pointer (some ⟨w.heap.size, 0, none⟩), .int .u64 150]) (w.alloc (.cells #[.pointer (some t)] 116)) := by kernel_rfl
theorem asTypeP (a : Addr) (w : World) : (ReflectliteValue.methodAny (ReflectliteValue.valueError "reflectlite.Value.Type" 0) (fun t _ _ _ => ReflectliteType.toType t) #[.agg #[.pointer (some ⟨6, 116, none⟩), .pointer (some a), .int .u64 150]]).run Tryd.prog w
    = .ok (.iface 157 (.agg #[.pointer (some ⟨6, 116, none⟩)])) w := by kernel_rfl
theorem asMethodKind (h : Value) (w : World) : (Go.method 303 157 (.agg #[h]) "Kind").run Tryd.prog w = .ok (129, h) w := by kernel_rfl
theorem asKindP (w : World) : ((ReflectliteType.abiMethod fun t => (fun a : Nat => Value.int IntKind.u8 (a : Int)) <$> Rtype.kind t) #[.pointer (some ⟨6, 116, none⟩)]).run Tryd.prog w = .ok (.int .u8 22) w := by kernel_rfl
theorem asKindL (w : World) : ((ReflectliteType.abiMethod fun t => (fun a : Nat => Value.int IntKind.u8 (a : Int)) <$> Rtype.kind t) #[.pointer (some ⟨6, 114, none⟩)]).run Tryd.prog w = .ok (.int .u8 25) w := by kernel_rfl
theorem rlm (z : Sem Value) (f : TypeId → Addr → Nat → Nat → Sem Value) (v : Value) :
    ReflectliteValue.method z f #[v] = (do match ← ReflectliteValue.parts v with | none => z | some (t, a, fl) => f t a fl (fl % 32)) := rfl
theorem asPartsP (a : Addr) (w : World) : (ReflectliteValue.parts (.agg #[.pointer (some ⟨6, 116, none⟩), .pointer (some a), .int .u64 150])).run Tryd.prog w = .ok (some (116, a, 150)) w := by kernel_rfl
theorem asIsNilP (a p : Addr) (W : World) (ha : W.cell? a = some (.pointer (some p))) :
    (ReflectliteValue.method (ReflectliteValue.valueError "reflectlite.Value.IsNil" 0) ReflectliteValue.isNil #[.agg #[.pointer (some ⟨6, 116, none⟩), .pointer (some a), .int .u64 150]]).run Tryd.prog W = .ok (.bool false) W := by
  rw [rlm]
  simp only [Sem.run_bind, asPartsP, Result.andThen]
  simp [ReflectliteValue.isNil, loadVar, isAgg, underlying, Tryd.underlying116, ha, Result.andThen]
theorem asMethodElem (h : Value) (w : World) : (Go.method 303 157 (.agg #[h]) "Elem").run Tryd.prog w = .ok (140, .agg #[h]) w := by kernel_rfl
theorem asMethodImplements (h : Value) (w : World) : (Go.method 303 157 (.agg #[h]) "Implements").run Tryd.prog w = .ok (141, .agg #[h]) w := by kernel_rfl
theorem asMethodAssignableTo (h : Value) (w : World) : (Go.method 303 157 (.agg #[h]) "AssignableTo").run Tryd.prog w = .ok (138, .agg #[h]) w := by kernel_rfl
theorem asElemP (w : World) : (ReflectliteType.method ReflectliteType.elem #[.agg #[.pointer (some ⟨6, 116, none⟩)]]).run Tryd.prog w = .ok (.iface 157 (.agg #[.pointer (some ⟨6, 114, none⟩)])) w := by kernel_rfl
theorem asImplementsL (w : World) : (ReflectliteType.relation "Implements" ReflectliteType.implements_ #[.agg #[.pointer (some ⟨6, 114, none⟩)], .iface 157 (.agg #[.pointer (some ⟨6, 67, none⟩)])]).run Tryd.prog w = .ok (.bool true) w := by kernel_rfl
theorem asTypeOfL (v : Value) (w : World) : (ReflectliteType.typeOf #[.iface 114 v]).run Tryd.prog w = .ok (.iface 157 (.agg #[.pointer (some ⟨6, 114, none⟩)])) w := by kernel_rfl
theorem asAssignableL (w : World) : (ReflectliteType.relation "AssignableTo" ReflectliteType.assignableTo #[.agg #[.pointer (some ⟨6, 114, none⟩)], .iface 157 (.agg #[.pointer (some ⟨6, 114, none⟩)])]).run Tryd.prog w = .ok (.bool true) w := by kernel_rfl
theorem asValueOfL (n : Int) (w : World) : (ReflectliteValue.unpack (.iface 114 (.agg #[.int .i64 n]))).run Tryd.prog w
    = .ok (.agg #[.pointer (some ⟨6, 114, none⟩), .pointer (some ⟨w.heap.size, 0, none⟩), .int .u64 153]) (w.alloc (.cells #[.int .i64 n] 114)) := by kernel_rfl
theorem asElemOfP (w : World) : (Rtype.elem? 116).run Tryd.prog w = .ok (some 114) w := by kernel_rfl
theorem asMkL (p : Addr) (w : World) : (ReflectliteValue.mk 114 p ReflectliteValue.flagAddr).run Tryd.prog w = .ok (.agg #[.pointer (some ⟨6, 114, none⟩), .pointer (some p), .int .u64 409]) w := by kernel_rfl
theorem asElemV (a p : Addr) (W : World) (ha : W.cell? a = some (.pointer (some p))) :
    (ReflectliteValue.method (ReflectliteValue.valueError "reflectlite.Value.Elem" 0) ReflectliteValue.elem #[.agg #[.pointer (some ⟨6, 116, none⟩), .pointer (some a), .int .u64 150]]).run Tryd.prog W
      = .ok (.agg #[.pointer (some ⟨6, 114, none⟩), .pointer (some p), .int .u64 409]) W := by
  rw [rlm]
  simp only [Sem.run_bind, asPartsP, Result.andThen]
  simp [ReflectliteValue.elem, loadVar, isAgg, underlying, Tryd.underlying116, ha, Result.andThen, asElemOfP, asMkL]
theorem rls (v x : Value) : ReflectliteValue.set #[v, x] = (do
    let (some (dst, a, fl), some (src, b, _)) := (← ReflectliteValue.parts v, ← ReflectliteValue.parts x)
      | unsupported (.noEntry "extern/(internal/reflectlite.Value).Set.zeroValue")
    if fl / ReflectliteValue.flagAddr % 2 == 0 then unsupported (.noEntry "extern/(internal/reflectlite.Value).Set.unaddressable")
    let val ← loadVar src b
    if ← Rtype.directlyAssignable dst src then storeVar dst a val
    else if ← Rtype.implements dst src then
      if (← Rtype.kind src) == 20 then
        match val with
        | .nilIface => unsupported (.noEntry "extern/reflectlite: a nil value of one interface type handed on as a value of another")
        | _ => storeVar dst a val
      else storeVar dst a (.iface src val)
    else panicString ("reflectlite.Set: value of type " ++ (← Rtype.spelt src) ++ " is not assignable to type " ++ (← Rtype.spelt dst))
    pure (.tuple #[])) := rfl
theorem asPartsA (a : Addr) (w : World) : (ReflectliteValue.parts (.agg #[.pointer (some ⟨6, 114, none⟩), .pointer (some a), .int .u64 409])).run Tryd.prog w = .ok (some (114, a, 409)) w := by kernel_rfl
theorem asPartsL (a : Addr) (w : World) : (ReflectliteValue.parts (.agg #[.pointer (some ⟨6, 114, none⟩), .pointer (some a), .int .u64 153])).run Tryd.prog w = .ok (some (114, a, 153)) w := by kernel_rfl
theorem asDirectL (w : World) : (Rtype.directlyAssignable 114 114).run Tryd.prog w = .ok true w := by kernel_rfl
theorem asSetL (t b : Nat) (old : Value) (n : Int) (W : World) (hb : W.cell? ⟨b, 0, none⟩ = some (.int .i64 n)) (ht : W.cell? ⟨t, 0, none⟩ = some old) (hf : W.frozen? ⟨t, 0, none⟩ = false) :
    (ReflectliteValue.set #[.agg #[.pointer (some ⟨6, 114, none⟩), .pointer (some ⟨t, 0, none⟩), .int .u64 409], .agg #[.pointer (some ⟨6, 114, none⟩), .pointer (some ⟨b, 0, none⟩), .int .u64 153]]).run Tryd.prog W
      = .ok (.tuple #[]) (W.setCell ⟨t, 0, none⟩ (.int .i64 n)) := by
  rw [rls]
  simp only [Sem.run_bind, asPartsA, asPartsL, Result.andThen]
  simp [ReflectliteValue.flagAddr, loadVar, isAgg, underlying, Tryd.underlying114, Result.andThen, asDirectL, storeVar, Value.cells, storeCells, Addr.add]
  have hl : (loadCells ⟨b, 0, none⟩ 1).run Tryd.prog W = .ok #[.int .i64 n] W := by
    have h := run_loadCells_list (P := Tryd.prog) W ⟨b, 0, none⟩ [.int .i64 n] (by
      intro j v hj
      match j, hj with
      | 0, hj => simp at hj; subst hj; simpa [Addr.add] using hb
      | j + 1, hj => simp at hj)
    simpa using h
  rw [hl]
  simp [storeCells, Addr.add]
  rw [run_store Tryd.prog W ⟨t, 0, none⟩ _ _ (by rfl)]
  simp [ht, hf]
end Go.Proofs.YtfafidholldjlaaDoor
/- errors.As at the error type of package digest, walked; check, told. -/
set_option linter.unusedVariables false
set_option linter.unusedSimpArgs false
namespace Go.Proofs.YtfafidholldjlaaDoor
open Go.RowKit Go.Extern.Stop Go.Stop Go.Extern
set_option maxHeartbeats 4000000 in
theorem as_hit (n : Int) (t : Nat) (old : Value) (w : World) (hg : w.cell? ⟨4, 0, none⟩ = some (.iface 157 (.agg #[.pointer (some ⟨6, 67, none⟩)]))) (h4 : 4 < w.heap.size) (htl : t < w.heap.size) (ht0 : w.cell? ⟨t, 0, none⟩ = some old) (hf0 : w.frozen? ⟨t, 0, none⟩ = false) :
    Calls Tryd.prog 84 #[.iface 114 (.agg #[.int .i64 n]), .iface 116 (.pointer (some ⟨t, 0, none⟩))] w fun ev w' => ev = .returned (.bool true) ∧ Far (· = t) w w' := by
  have h95 := @run_callFunc_extern Tryd.prog 95 _ (fun args => ReflectliteValue.unpack (args.getD 0 (.tuple #[]))) Tryd.func95 (by kernel_rfl) (by kernel_rfl) (by kernel_rfl) (by kernel_rfl)
  have h96 := @run_callFunc_extern Tryd.prog 96 _ (ReflectliteValue.methodAny (ReflectliteValue.valueError "reflectlite.Value.Type" 0) (fun t _ _ _ => ReflectliteType.toType t)) Tryd.func96 (by kernel_rfl) (by kernel_rfl) (by kernel_rfl) (by kernel_rfl)
  have h97 := @run_callFunc_extern Tryd.prog 97 _ (ReflectliteValue.method (ReflectliteValue.valueError "reflectlite.Value.IsNil" 0) ReflectliteValue.isNil) Tryd.func97 (by kernel_rfl) (by kernel_rfl) (by kernel_rfl) (by kernel_rfl)
  have h129 := @run_callFunc_extern Tryd.prog 129 _ (ReflectliteType.abiMethod fun t => do pure (.int .u8 (← Rtype.kind t))) Tryd.func129 (by kernel_rfl) (by kernel_rfl) (by kernel_rfl) (by kernel_rfl)
  have h140 := @run_callFunc_extern Tryd.prog 140 _ (ReflectliteType.method ReflectliteType.elem) Tryd.func140 (by kernel_rfl) (by kernel_rfl) (by kernel_rfl) (by kernel_rfl)
  have h141 := @run_callFunc_extern Tryd.prog 141 _ (ReflectliteType.relation "Implements" ReflectliteType.implements_) Tryd.func141 (by kernel_rfl) (by kernel_rfl) (by kernel_rfl) (by kernel_rfl)
  have h92 := @run_callFunc_extern Tryd.prog 92 _ ReflectliteType.typeOf Tryd.func92 (by kernel_rfl) (by kernel_rfl) (by kernel_rfl) (by kernel_rfl)
  have h138 := @run_callFunc_extern Tryd.prog 138 _ (ReflectliteType.relation "AssignableTo" ReflectliteType.assignableTo) Tryd.func138 (by kernel_rfl) (by kernel_rfl) (by kernel_rfl) (by kernel_rfl)
  have h107 := @run_callFunc_extern Tryd.prog 107 _ (ReflectliteValue.method (ReflectliteValue.valueError "reflectlite.Value.Elem" 0) ReflectliteValue.elem) Tryd.func107 (by kernel_rfl) (by kernel_rfl) (by kernel_rfl) (by kernel_rfl)
  have h108 := @run_callFunc_extern Tryd.prog 108 _ ReflectliteValue.set Tryd.func108 (by kernel_rfl) (by kernel_rfl) (by kernel_rfl) (by kernel_rfl)
  have tO := asTypeOfL
  have mA := asMethodAssignableTo
  have aL := asAssignableL
  have vL := asValueOfL
  have vP := asValueOfP
  have tP := asTypeP
  have mK := asMethodKind
  have mE := asMethodElem
  have mI := asMethodImplements
  have kP := asKindP
  have kL := asKindL
  have eP := asElemP
  have iL := asImplementsL
  have n8 := asIsNilP ⟨w.heap.size, 0, none⟩ ⟨t, 0, none⟩ ((w.alloc (.cells #[.pointer (some ⟨t, 0, none⟩)] 116)).alloc (.cells #[.pointer (some ⟨6, 116, none⟩), .pointer (some ⟨w.heap.size, 0, none⟩), .int .u64 150] 137)) (by simp)
  have hg2 : ((w.alloc (.cells #[.pointer (some ⟨t, 0, none⟩)] 116)).alloc (.cells #[.pointer (some ⟨6, 116, none⟩), .pointer (some ⟨w.heap.size, 0, none⟩), .int .u64 150] 137)).cell? ⟨4, 0, none⟩ = some (.iface 157 (.agg #[.pointer (some ⟨6, 67, none⟩)])) := by
    exact new_past (by simp; omega) (new_past h4 hg)
  have el := asElemV ⟨w.heap.size, 0, none⟩ ⟨t, 0, none⟩ (((w.alloc (.cells #[.pointer (some ⟨t, 0, none⟩)] 116)).alloc (.cells #[.pointer (some ⟨6, 116, none⟩), .pointer (some ⟨w.heap.size, 0, none⟩), .int .u64 150] 137)).alloc (.cells #[.pointer (some ⟨6, 116, none⟩), .pointer (some ⟨w.heap.size, 0, none⟩), .int .u64 150] 137)) (by rw [World.cell?_alloc_lt _ _ ⟨w.heap.size, 0, none⟩ (by simp; omega)]; simp)
  have st := asSetL t (w.heap.size + 1 + 1 + 1) old n ((((w.alloc (.cells #[.pointer (some ⟨t, 0, none⟩)] 116)).alloc (.cells #[.pointer (some ⟨6, 116, none⟩), .pointer (some ⟨w.heap.size, 0, none⟩), .int .u64 150] 137)).alloc (.cells #[.pointer (some ⟨6, 116, none⟩), .pointer (some ⟨w.heap.size, 0, none⟩), .int .u64 150] 137)).alloc (.cells #[.int .i64 n] 114))
    (new_at (by simp) rfl)
    (new_past (by simp; omega) (new_past (by simp; omega) (new_past (by simp; omega) (new_past htl ht0))))
    (frozen_past (by simp; omega) (frozen_past (by simp; omega) (frozen_past (by simp; omega) (frozen_past htl hf0))))
  go_enter Tryd.func84, Tryd.ntmps84
  go_wp2
  refine wp_loop_rounds 1 ?_
  rw [rounds_succ]
  go_wp2
  go_ret
  exact ⟨rfl, Far.setCell (D := (· = t)) (p := ⟨t, 0, none⟩) (((((Far.refl _ _).alloc _).alloc _).alloc _).alloc _) (fun _ => rfl) _⟩
theorem check_ok (n : Int) (h0 : 0 ≤ n) (h1 : n ≤ 100000) (w : World) : Calls Tryd.prog 70 #[.int .i64 n] w fun e w' => e = .returned .nilIface ∧ w = w' := by
  go_enter Tryd.func70, Tryd.ntmps70
  go_wp2_with fail
  go_ret
  exact ⟨rfl, rfl⟩
theorem check_bad (n : Int) (hn : n < 0 ∨ 100000 < n) (w : World) : Calls Tryd.prog 70 #[.int .i64 n] w fun e w' => (∃ m : Int, e = .returned (.iface 114 (.agg #[.int .i64 m]))) ∧ w = w' := by
  rcases hn with h | h
  · go_enter Tryd.func70, Tryd.ntmps70
    go_wp2_with fail
    go_ret
    exact ⟨⟨_, rfl⟩, rfl⟩
  · have h' : ¬ n < 0 := by omega
    go_enter Tryd.func70, Tryd.ntmps70
    go_wp2_with fail
    go_ret
    exact ⟨⟨_, rfl⟩, rfl⟩
theorem dtold_nil (w : World) : Calls Tryd.prog 71 #[.nilIface] w fun e w' => e = .returned (.int .i64 0) ∧ Below w.heap.size w w' := by
  go_enter Tryd.func71, Tryd.ntmps71
  go_wp2_with (go_at_call 84; refine (as_nil _ _).mono ?_; rintro e w' ⟨rfl, rfl⟩)
  go_ret
  exact ⟨rfl, (Below.refl _ _).alloc (Nat.le_refl _) _⟩
theorem dtold_long (m : Int) (w : World) (hg : w.cell? ⟨4, 0, none⟩ = some (.iface 157 (.agg #[.pointer (some ⟨6, 67, none⟩)]))) (h4 : 4 < w.heap.size) :
    Calls Tryd.prog 71 #[.iface 114 (.agg #[.int .i64 m])] w fun e w' => e = .returned (.int .i64 20) ∧ Below w.heap.size w w' := by
  have Hg := Lib.hid hg
  clear hg
  go_enter Tryd.func71, Tryd.ntmps71
  go_wp2_with fail
  refine (as_hit m w.heap.size _ _ (new_past h4 Hg.out) (by simp; omega) (by simp) (new_at rfl rfl) (frozen_of (alloc_heap_at _ _ _ rfl) 0)).mono ?_
  rintro e w1 ⟨rfl, hf⟩
  have HF := Lib.hid hf
  clear hf
  go_wp2_with fail
  go_ret
  exact ⟨rfl, ((Below.refl _ w).alloc (Nat.le_refl _) _).trans (HF.out.to_below (by simp) (by omega))⟩
end Go.Proofs.YtfafidholldjlaaDoor
/- A message's end, of package digest. -/
set_option linter.unusedVariables false
set_option linter.unusedSimpArgs false
namespace Go.Proofs.YtfafidholldjlaaDoor
open Go.RowKit
theorem append_zeros (W : World) (g z : Nat) (hz : 0 < z) (hz2 : z ≤ 63) (ty : TypeId) (hg : W.heap[g]? = some (.cells #[.int .u8 128] 5 (0, 0))) :
    (Builtin.append_ #[40, 3] ty #[.slice (some ⟨g, 0, none⟩) 1 1, .int .i64 z]).run Tryd.prog W =
      .ok (.slice (some ⟨W.heap.size, 0, none⟩) (1 + z) (grownCap W (1 + z) 1 5))
        (W.drew.alloc (.cells ((#[.int .u8 128] ++ Builtin.zeroCells #[.int .u8 0] z) ++ Builtin.zeroCells #[.int .u8 0] (grownCap W (1 + z) 1 5 - (1 + z))) 5)) := by
  obtain ⟨i, hi, hz0, hz1, hb1⟩ := info_parts info5
  have hw : IntKind.i64.wrap (z : Int) = z := by rw [IntKind.wrap_i64]; omega
  have hn : ¬ (1 + z ≤ 1) := by omega
  have hz' : ¬ z = 0 := by omega
  have hns : ¬ (z * i.size = 0) := by rw [hz1]; omega
  have hneg : ¬ ((z : Int) < 0) := by omega
  have h63' : ¬ (9223372036854775807 < ((1 : Int) + (z : Int))) := by omega
  have hlt : Builtin.nextslicecap (1 + z) 1 * i.bytes ≤ 281474976710656 := growslice_fits (by omega) (by rw [hb1]; omega)
  have h48' : ¬ (281474976710656 < Builtin.nextslicecap (1 + z) 1 * i.bytes) := by omega
  have h48i : ¬ (281474976710656 < (z : Int) * (i.bytes : Int)) := by rw [hb1]; omega
  have hfo := run_firstCells_some (P := Tryd.prog) W.drew i.size 1 ⟨g, 0, none⟩ 1 1 [.int .u8 128] (by simp [hz1]) (by
    intro j v hj
    match j, hj with
    | 0, hj => simp at hj; subst hj; rw [Addr.add_lit]; exact cell_of hg 0
    | j + 1, hj => simp at hj)
  rw [hz1] at hfo hns
  simp [Builtin.append_, run_underlying Tryd.underlying40, run_underlying Tryd.underlying3, sizeOf, typeInfo, zeroValue, hi, hz0, asInt, asIntOf, hw, hn, hz', hneg, hns, h63', h48', h48i, Question.forced, hfo, newRow, grownCap, hz1, Value.cells]
theorem append_zero (W : World) (g : Nat) (ty : TypeId) (hg : W.heap[g]? = some (.cells #[.int .u8 128] 5 (0, 0))) :
    (Builtin.append_ #[40, 3] ty #[.slice (some ⟨g, 0, none⟩) 1 1, .int .i64 0]).run Tryd.prog W = .ok (.slice (some ⟨g, 0, none⟩) 1 1) W := by
  obtain ⟨i, hi, hz0, hz1, hb1⟩ := info_parts info5
  have hw : IntKind.i64.wrap 0 = 0 := rfl
  simp [Builtin.append_, run_underlying Tryd.underlying40, run_underlying Tryd.underlying3, sizeOf, typeInfo, zeroValue, hi, hz0, asInt, asIntOf, hw, storeCells]
theorem append_end (W : World) (g z base : Nat) (zi : Int) (hzi : zi = z) (hz2 : z ≤ 63) (ty : TypeId) (hg : W.heap[g]? = some (.cells #[.int .u8 128] 5 (0, 0))) (hb : base ≤ g) :
    ∃ v' W', (Builtin.append_ #[40, 3] ty #[.slice (some ⟨g, 0, none⟩) 1 1, .int .i64 zi]).run Tryd.prog W = .ok v' W' ∧ W'.ownsRow base 5 1 v' (1 + z) (byteCells (128 :: List.replicate z 0)) ∧ W.grownBy W' (some g) := by
  subst hzi
  have hgl := lt_of_heap hg
  by_cases h0 : z = 0
  · subst h0
    refine ⟨_, _, append_zero W g ty hg, ⟨by simp [byteCells], .inr ⟨g, 1, _, rfl, hb, hg, by omega, by decide, by simp, by simp [byteCells]⟩⟩, ⟨rfl, rfl, rfl, Nat.le_refl _, fun _ _ _ => rfl⟩⟩
  · refine ⟨_, _, append_zeros W g z (by omega) hz2 ty hg, ⟨by simp [byteCells]; omega, .inr ⟨W.heap.size, _, _, rfl, by omega, heap_alloc_new W.drew _, grownCap_ge W (1 + z) 1 5, grownCap_le_maxLen W (1 + z) 1 5 (by unfold maxLen; omega), ?_, ?_⟩⟩, ⟨rfl, rfl, rfl, by simp, fun k hk _ => heap_alloc_old W.drew _ hk⟩⟩
    · have := grownCap_ge W (1 + z) 1 5
      simp [size_zeroCells]
      omega
    · have hzc : (Builtin.zeroCells #[Value.int .u8 0] z).toList = List.replicate z (.int .u8 0) := by
        apply List.ext_getElem
        · simp [size_zeroCells]
        · intro i h1 h2
          simp [Builtin.zeroCells, Nat.mod_one]
      simp only [Array.toList_append, hzc, Nat.mul_one]
      rw [List.take_append_of_le_length (by simp; omega), List.take_of_length_le (by simp; omega)]
      simp [byteCells]
set_option maxRecDepth 100000 in
set_option maxHeartbeats 4000000 in
theorem end_any (n : Nat) (hn : n ≤ 100000) (w : World) :
    Calls Tryd.prog 72 #[.int .i64 (n : Int)] w fun e w' => e = .returned (.string ⟨(Sha.endOf n).toArray⟩) ∧ Below w.heap.size w w' := by
  obtain ⟨i0, hi, hz0, hz1, hz2⟩ := info_parts info5
  have Hi := Lib.hid hi
  have Hz0 := Lib.hid hz0
  have Hz1 := Lib.hid hz1
  have Hz2 := Lib.hid hz2
  clear hi hz0 hz1 hz2
  have hz : ((119 - (n : Int) % 64) % 64) = ((Sha.zeros n : Nat) : Int) := by unfold Sha.zeros; omega
  have hz63 : Sha.zeros n ≤ 63 := by unfold Sha.zeros; omega
  obtain ⟨z, hze⟩ : ∃ z, Sha.zeros n = z := ⟨_, rfl⟩
  rw [hze] at hz hz63
  have HZ := Lib.hid hz
  have HZE := Lib.hid hze
  clear hz hze
  obtain ⟨v0, W0, hr, o0, hgr⟩ := append_end (w.alloc (.cells #[.int .u8 128] 5)) w.heap.size z w.heap.size _ HZ.out hz63 40 (alloc_heap_at _ _ _ rfl) (Nat.le_refl _)
  obtain ⟨g0, cap0, rfl, hg0, hl0⟩ := ownsRow_form (n := z) (by rw [Nat.add_comm]; exact o0)
  have hf0 : Below w.heap.size w W0 := (((Far.refl (fun k => w.heap.size ≤ k) w).alloc _).grown hgr (fun k e h => by cases e; exact Nat.le_refl _)).to_below (Nat.le_refl _) (fun i h1 h2 => by omega)
  have hn0 : w.heap.size ≤ W0.heap.size := hf0.size
  rw [Nat.add_comm] at o0 hr
  have HR := Lib.hid hr
  have O0 := Lib.hid o0
  have F0 := Lib.hid hf0
  clear hr o0 hf0 hgr
  go_enter Tryd.func72, Tryd.ntmps72
  go_wp2_with (at_builtin; refine Lib.wpList_append_run _ rfl _ _ _ _ rfl _ _ rfl rfl _ _ HR.out ?_)
  have hm : n ≤ 100000 := hn
  have q0 : (0 : Int) ≤ (n : Int) := by omega
  have q1 : (n : Int) ≤ 100000 := by omega
  refine wp_loop_rounds 9 ?_
  rw [rounds_succ]
  go_wp2_with (at_builtin; refine wpList_append_own _ rfl (.tmp 17) (.tmp 24) 40 rfl w.heap.size 5 i0 (.int .u8 0) 1 1 Tryd.underlying40 Hi.out Hz0.out Hz1.out Hz2.out rfl (by decide) _ _ _ rfl (O0.out.alloc _) ⟨W0.heap.size, 0, none⟩ 1 1 [.int .u8 (8 * (n : Int) / 72057594037927936)] rfl rfl (cell_one_new _ _ _) (by simp [Value.oneCell']) (by unfold maxLen; omega) (by omega) (Nat.le_trans hn0 (by simp)) ?_; intro v1 W1 o1 hgrow _; obtain ⟨g1, cap1, rfl, hg1, hl1⟩ := ownsRow_form o1; have hn1 : w.heap.size ≤ W1.heap.size := (by omega); have hrl := O0.out.lt; have hf1 := F0.out.trans (((Below.refl w.heap.size W0).alloc hn0 _).grown hgrow (Nat.le_trans hn0 (by simp)) (fun k e => (hrl k e).1)); have O1 := Lib.hid o1; have F1 := Lib.hid hf1; clear o1 hf1 hgrow hrl)
  rw [rounds_succ]
  go_wp2_with (at_builtin; refine wpList_append_own _ rfl (.tmp 17) (.tmp 24) 40 rfl w.heap.size 5 i0 (.int .u8 0) 1 1 Tryd.underlying40 Hi.out Hz0.out Hz1.out Hz2.out rfl (by decide) _ _ _ rfl (O1.out.alloc _) ⟨W1.heap.size, 0, none⟩ 1 1 [.int .u8 (8 * (n : Int) / 281474976710656)] rfl rfl (cell_one_new _ _ _) (by simp [Value.oneCell']) (by unfold maxLen; omega) (by omega) (Nat.le_trans hn1 (by simp)) ?_; intro v2 W2 o2 hgrow _; obtain ⟨g2, cap2, rfl, hg2, hl2⟩ := ownsRow_form o2; have hn2 : w.heap.size ≤ W2.heap.size := (by omega); have hrl := O1.out.lt; have hf2 := F1.out.trans (((Below.refl w.heap.size W1).alloc hn1 _).grown hgrow (Nat.le_trans hn1 (by simp)) (fun k e => (hrl k e).1)); have O2 := Lib.hid o2; have F2 := Lib.hid hf2; clear o2 hf2 hgrow hrl)
  rw [rounds_succ]
  go_wp2_with (at_builtin; refine wpList_append_own _ rfl (.tmp 17) (.tmp 24) 40 rfl w.heap.size 5 i0 (.int .u8 0) 1 1 Tryd.underlying40 Hi.out Hz0.out Hz1.out Hz2.out rfl (by decide) _ _ _ rfl (O2.out.alloc _) ⟨W2.heap.size, 0, none⟩ 1 1 [.int .u8 (8 * (n : Int) / 1099511627776)] rfl rfl (cell_one_new _ _ _) (by simp [Value.oneCell']) (by unfold maxLen; omega) (by omega) (Nat.le_trans hn2 (by simp)) ?_; intro v3 W3 o3 hgrow _; obtain ⟨g3, cap3, rfl, hg3, hl3⟩ := ownsRow_form o3; have hn3 : w.heap.size ≤ W3.heap.size := (by omega); have hrl := O2.out.lt; have hf3 := F2.out.trans (((Below.refl w.heap.size W2).alloc hn2 _).grown hgrow (Nat.le_trans hn2 (by simp)) (fun k e => (hrl k e).1)); have O3 := Lib.hid o3; have F3 := Lib.hid hf3; clear o3 hf3 hgrow hrl)
  rw [rounds_succ]
  go_wp2_with (at_builtin; refine wpList_append_own _ rfl (.tmp 17) (.tmp 24) 40 rfl w.heap.size 5 i0 (.int .u8 0) 1 1 Tryd.underlying40 Hi.out Hz0.out Hz1.out Hz2.out rfl (by decide) _ _ _ rfl (O3.out.alloc _) ⟨W3.heap.size, 0, none⟩ 1 1 [.int .u8 (8 * (n : Int) / 4294967296)] rfl rfl (cell_one_new _ _ _) (by simp [Value.oneCell']) (by unfold maxLen; omega) (by omega) (Nat.le_trans hn3 (by simp)) ?_; intro v4 W4 o4 hgrow _; obtain ⟨g4, cap4, rfl, hg4, hl4⟩ := ownsRow_form o4; have hn4 : w.heap.size ≤ W4.heap.size := (by omega); have hrl := O3.out.lt; have hf4 := F3.out.trans (((Below.refl w.heap.size W3).alloc hn3 _).grown hgrow (Nat.le_trans hn3 (by simp)) (fun k e => (hrl k e).1)); have O4 := Lib.hid o4; have F4 := Lib.hid hf4; clear o4 hf4 hgrow hrl)
  rw [rounds_succ]
  go_wp2_with (at_builtin; refine wpList_append_own _ rfl (.tmp 17) (.tmp 24) 40 rfl w.heap.size 5 i0 (.int .u8 0) 1 1 Tryd.underlying40 Hi.out Hz0.out Hz1.out Hz2.out rfl (by decide) _ _ _ rfl (O4.out.alloc _) ⟨W4.heap.size, 0, none⟩ 1 1 [.int .u8 (8 * (n : Int) / 16777216)] rfl rfl (cell_one_new _ _ _) (by simp [Value.oneCell']) (by unfold maxLen; omega) (by omega) (Nat.le_trans hn4 (by simp)) ?_; intro v5 W5 o5 hgrow _; obtain ⟨g5, cap5, rfl, hg5, hl5⟩ := ownsRow_form o5; have hn5 : w.heap.size ≤ W5.heap.size := (by omega); have hrl := O4.out.lt; have hf5 := F4.out.trans (((Below.refl w.heap.size W4).alloc hn4 _).grown hgrow (Nat.le_trans hn4 (by simp)) (fun k e => (hrl k e).1)); have O5 := Lib.hid o5; have F5 := Lib.hid hf5; clear o5 hf5 hgrow hrl)
  rw [rounds_succ]
  go_wp2_with (at_builtin; refine wpList_append_own _ rfl (.tmp 17) (.tmp 24) 40 rfl w.heap.size 5 i0 (.int .u8 0) 1 1 Tryd.underlying40 Hi.out Hz0.out Hz1.out Hz2.out rfl (by decide) _ _ _ rfl (O5.out.alloc _) ⟨W5.heap.size, 0, none⟩ 1 1 [.int .u8 (8 * (n : Int) / 65536)] rfl rfl (cell_one_new _ _ _) (by simp [Value.oneCell']) (by unfold maxLen; omega) (by omega) (Nat.le_trans hn5 (by simp)) ?_; intro v6 W6 o6 hgrow _; obtain ⟨g6, cap6, rfl, hg6, hl6⟩ := ownsRow_form o6; have hn6 : w.heap.size ≤ W6.heap.size := (by omega); have hrl := O5.out.lt; have hf6 := F5.out.trans (((Below.refl w.heap.size W5).alloc hn5 _).grown hgrow (Nat.le_trans hn5 (by simp)) (fun k e => (hrl k e).1)); have O6 := Lib.hid o6; have F6 := Lib.hid hf6; clear o6 hf6 hgrow hrl)
  rw [rounds_succ]
  go_wp2_with (at_builtin; refine wpList_append_own _ rfl (.tmp 17) (.tmp 24) 40 rfl w.heap.size 5 i0 (.int .u8 0) 1 1 Tryd.underlying40 Hi.out Hz0.out Hz1.out Hz2.out rfl (by decide) _ _ _ rfl (O6.out.alloc _) ⟨W6.heap.size, 0, none⟩ 1 1 [.int .u8 (8 * (n : Int) / 256 % 256)] rfl rfl (cell_one_new _ _ _) (by simp [Value.oneCell']) (by unfold maxLen; omega) (by omega) (Nat.le_trans hn6 (by simp)) ?_; intro v7 W7 o7 hgrow _; obtain ⟨g7, cap7, rfl, hg7, hl7⟩ := ownsRow_form o7; have hn7 : w.heap.size ≤ W7.heap.size := (by omega); have hrl := O6.out.lt; have hf7 := F6.out.trans (((Below.refl w.heap.size W6).alloc hn6 _).grown hgrow (Nat.le_trans hn6 (by simp)) (fun k e => (hrl k e).1)); have O7 := Lib.hid o7; have F7 := Lib.hid hf7; clear o7 hf7 hgrow hrl)
  rw [rounds_succ]
  go_wp2_with (at_builtin; refine wpList_append_own _ rfl (.tmp 17) (.tmp 24) 40 rfl w.heap.size 5 i0 (.int .u8 0) 1 1 Tryd.underlying40 Hi.out Hz0.out Hz1.out Hz2.out rfl (by decide) _ _ _ rfl (O7.out.alloc _) ⟨W7.heap.size, 0, none⟩ 1 1 [.int .u8 (8 * (n : Int) % 256)] rfl rfl (cell_one_new _ _ _) (by simp [Value.oneCell']) (by unfold maxLen; omega) (by omega) (Nat.le_trans hn7 (by simp)) ?_; intro v8 W8 o8 hgrow _; obtain ⟨g8, cap8, rfl, hg8, hl8⟩ := ownsRow_form o8; have hn8 : w.heap.size ≤ W8.heap.size := (by omega); have hrl := O7.out.lt; have hf8 := F7.out.trans (((Below.refl w.heap.size W7).alloc hn7 _).grown hgrow (Nat.le_trans hn7 (by simp)) (fun k e => (hrl k e).1)); have O8 := Lib.hid o8; have F8 := Lib.hid hf8; clear o8 hf8 hgrow hrl)
  rw [rounds_succ]
  have hcells : byteCells (Sha.endOf n) = byteCells (128 :: List.replicate z 0) ++ [.int .u8 (8 * (n : Int) / 72057594037927936)] ++ [.int .u8 (8 * (n : Int) / 281474976710656)] ++ [.int .u8 (8 * (n : Int) / 1099511627776)] ++ [.int .u8 (8 * (n : Int) / 4294967296)] ++ [.int .u8 (8 * (n : Int) / 16777216)] ++ [.int .u8 (8 * (n : Int) / 65536)] ++ [.int .u8 (8 * (n : Int) / 256 % 256)] ++ [.int .u8 (8 * (n : Int) % 256)] := by
    unfold Sha.endOf
    rw [HZE.out]
    have e1 : (8 * (n : Int) / 72057594037927936) = 0 := by omega
    have e2 : (8 * (n : Int) / 281474976710656) = 0 := by omega
    have e3 : (8 * (n : Int) / 1099511627776) = 0 := by omega
    have e4 : (8 * (n : Int) / 4294967296) = 0 := by omega
    have e5 : (8 * (n : Int) / 16777216) = 0 := by omega
    have e5' : (8 * n / 16777216) % 256 = 0 := by omega
    have e6 : (8 * (n : Int) / 65536) = (((8 * n / 65536) % 256 : Nat) : Int) := by omega
    have e7 : (8 * (n : Int) / 256 % 256) = (((8 * n / 256) % 256 : Nat) : Int) := by omega
    have e8 : (8 * (n : Int) % 256) = (((8 * n) % 256 : Nat) : Int) := by omega
    rw [e1, e2, e3, e4, e5, e6, e7, e8]
    simp [byteCells, e5']
  have hlen : (Sha.endOf n).length = 1 + z + 1 + 1 + 1 + 1 + 1 + 1 + 1 + 1 := by rw [Sha.endOf_length, HZE.out]; omega
  have hx : ∀ j u, (byteCells (Sha.endOf n))[j]? = some u → W8.cell? ⟨g8, j, none⟩ = some u := by
    intro j u hj
    refine ownsRow_cell O8.out j u ?_
    rw [hcells] at hj
    exact hj
  have hcv := run_convert_bytes_back (P := Tryd.prog) W8 40 9 5 ⟨g8, 0, none⟩ cap8 (Sha.endOf n) Tryd.underlying40 Tryd.underlying5 Tryd.underlying9 (fun j hj => by
    rw [Addr.add_lit, Nat.zero_add]
    refine hx j _ ?_
    simp [byteCells, List.getElem?_eq_getElem hj])
  rw [hlen] at hcv
  clear hx hcells hlen
  go_wp2_with fail
  go_ret
  exact ⟨rfl, F8.out⟩
theorem endOk_any (n : Nat) (hn : n ≤ 100000) (w : World) :
    Calls Tryd.prog 38 #[.int .i64 (n : Int)] w fun e w' => e = .returned (.tuple #[.string ⟨(Sha.endOf n).toArray⟩, .int .i64 0]) ∧ Below w.heap.size w w' := by
  have H := Lib.hid hn
  go_enter Tryd.func38, Tryd.ntmps38
  go_wp2_with fail
  refine (check_ok _ (by omega) (by omega) _).mono ?_
  rintro e w1 ⟨rfl, rfl⟩
  go_wp2_with fail
  refine (end_any n H.out _).mono ?_
  rintro e w1 ⟨rfl, hb⟩
  have HB := Lib.hid hb
  clear hb
  go_wp2_with fail
  exact bodyPost_ret (v := _) (by simp [results, Tryd.results38, go_sem]) rfl ⟨rfl, HB.out⟩
theorem endBad_any (n : Int) (hn : n < 0 ∨ 100000 < n) (w : World) (hg : w.cell? ⟨4, 0, none⟩ = some (.iface 157 (.agg #[.pointer (some ⟨6, 67, none⟩)]))) (h4 : 4 < w.heap.size) :
    Calls Tryd.prog 38 #[.int .i64 n] w fun e w' => e = .returned (.tuple #[.string ⟨#[]⟩, .int .i64 20]) ∧ Below w.heap.size w w' := by
  have H := Lib.hid hn
  have Hg := Lib.hid hg
  clear hn hg
  go_enter Tryd.func38, Tryd.ntmps38
  go_wp2_with fail
  refine (check_bad _ H.out _).mono ?_
  rintro e w1 ⟨⟨m, rfl⟩, rfl⟩
  go_wp2_with fail
  refine (dtold_long m _ Hg.out h4).mono ?_
  rintro e w1 ⟨rfl, hb⟩
  have HB := Lib.hid hb
  clear hb
  go_wp2_with fail
  exact bodyPost_ret (v := _) (by simp [results, Tryd.results38, go_sem]) rfl ⟨rfl, HB.out⟩
end Go.Proofs.YtfafidholldjlaaDoor
/- A hasher's memory; bytes put behind those that are no whole block yet. -/
set_option linter.unusedVariables false
set_option linter.unusedSimpArgs false
namespace Go.Proofs.YtfafidholldjlaaDoor
open Go.RowKit
/-- A hasher's cells. -/
def hrow (v : Value) (s : Sha.St) (n : Int) : Array Value := #[v, .int .i64 s.a, .int .i64 s.b, .int .i64 s.c, .int .i64 s.d, .int .i64 s.e, .int .i64 s.f, .int .i64 s.g, .int .i64 s.h, .int .i64 n]
/-- Bytes that a slice holds, in another block than h. -/
def Rest (W : World) (h : Nat) (v : Value) (r : List UInt8) : Prop :=
  ∃ sp cap, v = .slice sp r.length cap ∧ (0 < r.length → ∃ g o, sp = some ⟨g, o, none⟩ ∧ g < W.heap.size ∧ g ≠ h ∧ r.length ≤ cap ∧ ∀ j u, (byteCells r)[j]? = some u → W.cell? ⟨g, o + j, none⟩ = some u)
theorem Rest.far {W W' : World} {h : Nat} {v : Value} {r : List UInt8} (hr : Rest W h v r) (hf : Far (· = h) W W') : Rest W' h v r := by
  obtain ⟨sp, cap, e, hp⟩ := hr
  refine ⟨sp, cap, e, fun h0 => ?_⟩
  obtain ⟨g, o, e1, e2, e3, e4, e5⟩ := hp h0
  exact ⟨g, o, e1, Nat.lt_of_lt_of_le e2 hf.size, e3, e4, fun j u hj => (hf.cell (p := ⟨g, o + j, none⟩) e2 e3).trans (e5 j u hj)⟩
theorem byteCells_length (l : List UInt8) : (byteCells l).length = l.length := by simp [byteCells]
theorem byteCells_one (l : List UInt8) : ∀ v ∈ byteCells l, v.oneCell' = true := by
  intro v hv
  obtain ⟨b, _, rfl⟩ := List.mem_map.1 hv
  rfl
theorem made_zero (n : Nat) : madeCells #[Value.int .u8 0] n = (List.replicate n (Value.int .u8 0)).toArray := by
  unfold madeCells
  apply Array.ext
  · simp
  · intro i h1 h2
    simp [Nat.mod_one]
theorem make_bytes (n : Nat) (hn : n ≤ 1000000) (ki : Int) (hk : ki = (n : Int)) (W : World) : (Instr.makeSlice 40 (.int .i64 ki) (.int .i64 ki)).run Tryd.prog W = .ok (.slice (some ⟨W.heap.size, 0, none⟩) n n) (W.alloc (.cells (List.replicate n (Value.int .u8 0)).toArray 5)) := by
  subst hk
  obtain ⟨i0, hi, hz0, hz1, hz2⟩ := info_parts info5
  have h := run_makeSlice (P := Tryd.prog) (w := W) 40 5 i0 (.int .u8 0) Tryd.underlying40 hi hz0 .i64 .i64 n n (by omega) (by omega) (by rw [hz1]; simp; omega) (by rw [hz2]; omega) (by omega)
  rw [hz1] at h
  simpa [Value.cells, made_zero] using h
theorem slice_tail (g N k : Nat) (hk : k ≤ N) (W : World) : (Instr.slice 40 (.slice (some ⟨g, 0, none⟩) N N) (some (.int .i64 (k : Int))) none none).run Tryd.prog W = .ok (.slice (if N = k then some ⟨g, 0, none⟩ else some ⟨g, k, none⟩) (N - k) (N - k)) W := by
  simp [go_sem, Tryd.underlying40, hk]
theorem size5 : (Tryd.prog.info? 5).map (·.size) = some 1 := by kernel_rfl
theorem splice_front (m : Nat) (l : List Value) (k : Nat) (hk : l.length = k) : splice (List.replicate (k + m) (Value.int .u8 0)) 0 l = l ++ List.replicate m (Value.int .u8 0) := by
  subst hk
  simp [splice]
theorem splice_back (l q : List Value) (k m : Nat) (hk : l.length = k) (hm : q.length = m) : splice (l ++ List.replicate m (Value.int .u8 0)) k q = l ++ q := by
  subst hk hm
  simp [splice]
set_option maxRecDepth 100000 in
set_option maxHeartbeats 2000000 in
theorem put_any (h : Nat) (v : Value) (s : Sha.St) (n : Int) (r : List UInt8) (sl : Option Addr) (cl : Nat) (q : List UInt8) (w : World)
    (hh : w.heap[h]? = some (.cells (hrow v s n) 93 (0, 0))) (hr : Rest w h v r) (hrl : r.length ≤ 400000) (hql : q.length ≤ 400000)
    (hq : 0 < q.length → ∃ gl, sl = some ⟨gl, 0, none⟩ ∧ gl < w.heap.size ∧ ∀ j u, (byteCells q)[j]? = some u → w.cell? ⟨gl, j, none⟩ = some u) :
    Calls Tryd.prog 86 #[.pointer (some ⟨h, 0, none⟩), .slice sl q.length cl] w fun e w' => e = .returned (.tuple #[]) ∧
      ∃ v', w'.heap[h]? = some (.cells (hrow v' s n) 93 (0, 0)) ∧ (∃ g, v' = .slice (some ⟨g, 0, none⟩) (r ++ q).length (r ++ q).length) ∧ Rest w' h v' (r ++ q) ∧ Far (· = h) w w' := by
  obtain ⟨sp, cap, rfl, hp⟩ := hr
  obtain ⟨cs, hcs⟩ : ∃ cs, byteCells r = cs := ⟨_, rfl⟩
  obtain ⟨ds, hds⟩ : ∃ ds, byteCells q = ds := ⟨_, rfl⟩
  have hk : r.length = cs.length := by rw [← hcs, byteCells_length]
  have hm : q.length = ds.length := by rw [← hds, byteCells_length]
  have hc1 : ∀ v ∈ cs, v.oneCell' = true := by rw [← hcs]; exact byteCells_one r
  have hd1 : ∀ v ∈ ds, v.oneCell' = true := by rw [← hds]; exact byteCells_one q
  have hcd : byteCells (r ++ q) = cs ++ ds := by rw [byteCells_append, hcs, hds]
  have hlen : (r ++ q).length = cs.length + ds.length := by rw [List.length_append, hk, hm]
  rw [hk] at hp hrl hh
  rw [hcs] at hp
  rw [hm] at hq hql ⊢
  rw [hds] at hq
  have hl := lt_of_heap hh
  have c0 : w.cell? ⟨h, 0, none⟩ = some (.slice sp cs.length cap) := cell_of hh 0
  have hmk := make_bytes (cs.length + ds.length) (by omega) ((cs.length : Int) + (ds.length : Int)) (by omega)
  have hst := slice_tail w.heap.size (cs.length + ds.length) cs.length (by omega)
  have hkm : cs.length + ds.length - cs.length = ds.length := by omega
  rw [hkm] at hst
  obtain ⟨sp2, hsp2⟩ : ∃ sp2, (if cs.length + ds.length = cs.length then some (⟨w.heap.size, 0, none⟩ : Addr) else some ⟨w.heap.size, cs.length, none⟩) = sp2 := ⟨_, rfl⟩
  have hsp : 0 < ds.length → sp2 = some ⟨w.heap.size, cs.length, none⟩ := fun h0 => by rw [← hsp2, if_neg (by omega)]
  rw [hsp2] at hst
  have HSP := Lib.hid hsp
  clear hsp hsp2
  have q0 : (cs.length : Int) ≤ 400000 := by omega
  have q1 : (ds.length : Int) ≤ 400000 := by omega
  have G1 := Lib.hid (alloc_heap_at w (.cells (List.replicate (cs.length + ds.length) (Value.int .u8 0)).toArray 5) _ rfl)
  have N1 : Hid (cs.length = Nat.min cs.length (cs.length + ds.length)) := Lib.hid (Nat.min_eq_left (by omega)).symm
  have P1 := Lib.hid (fun (h0 : 0 < cs.length) => show some (⟨w.heap.size, 0, none⟩ : Addr) = some ⟨w.heap.size, 0, none⟩ ∧ ∃ ad, sp = some ad ∧ ∀ j v, cs[j]? = some v → (w.alloc (.cells (List.replicate (cs.length + ds.length) (Value.int .u8 0)).toArray 5)).cell? (ad.add j) = some v from by
    obtain ⟨g, o, e1, e2, e3, e4, e5⟩ := hp h0
    exact ⟨rfl, ⟨g, o, none⟩, e1, fun j v hj => by rw [Addr.add_lit]; exact new_past e2 (e5 j v hj)⟩)
  have F1 : Hid (0 + cs.length ≤ (List.replicate (cs.length + ds.length) (Value.int .u8 0)).length) := Lib.hid (by simp)
  have B1 := Lib.hid ((Below.refl w.heap.size w).alloc (Nat.le_refl _) (.cells (List.replicate (cs.length + ds.length) (Value.int .u8 0)).toArray 5))
  have N2 : Hid (ds.length = Nat.min ds.length ds.length) := Lib.hid (Nat.min_self _).symm
  have F2 : Hid (cs.length + ds.length ≤ (cs ++ List.replicate ds.length (Value.int .u8 0)).length) := Lib.hid (by simp)
  have HH := Lib.hid hh
  have HQ := Lib.hid hq
  have HC1 := Lib.hid hc1
  have HD1 := Lib.hid hd1
  have HCD := Lib.hid hcd
  have HLEN := Lib.hid hlen
  clear hh hp hq hk hm hkm hcs hds hc1 hd1 hcd hlen
  go_enter Tryd.func86, Tryd.ntmps86
  go_wp2_with (first
    | (refine wpList_copy_splice rfl (.tmp 15) (.tmp 19) 40 40 rfl 5 Tryd.underlying40 size5 _ _ _ _ _ _ rfl rfl w.heap.size 0 _ 5 G1.out cs N1.out P1.out F1.out HC1.out w.heap.size w B1.out (Nat.le_refl _) ?_; intro w1 hw1 hb1; have G2 : Hid (w1.heap[w.heap.size]? = some (.cells (cs ++ List.replicate ds.length (Value.int .u8 0)).toArray 5 (0, 0))) := Lib.hid (by rw [← splice_front ds.length cs _ rfl]; exact hw1.out); have HB1 := Lib.hid hb1; have P2 := Lib.hid (fun (h0 : 0 < ds.length) => show sp2 = some ⟨w.heap.size, cs.length, none⟩ ∧ ∃ ad, sl = some ad ∧ ∀ j v, ds[j]? = some v → w1.cell? (ad.add j) = some v from (by
        obtain ⟨gl, e1, e2, e3⟩ := HQ.out h0
        exact ⟨HSP.out h0, ⟨gl, 0, none⟩, e1, fun j v hj => (by rw [Addr.add_lit, Nat.zero_add]; exact (HB1.out.cell (p := ⟨gl, j, none⟩) e2).trans (e3 j v hj))⟩)); clear hw1 hb1)
    | (refine wpList_copy_splice rfl (.tmp 21) (.tmp 22) 40 40 rfl 5 Tryd.underlying40 size5 _ _ _ _ _ _ rfl rfl w.heap.size cs.length _ 5 G2.out ds N2.out P2.out F2.out HD1.out w.heap.size w HB1.out (Nat.le_refl _) ?_; intro w2 hw2 hb2; have G3 : Hid (w2.heap[w.heap.size]? = some (.cells (cs ++ ds).toArray 5 (0, 0))) := Lib.hid (by rw [← splice_back cs ds _ _ rfl rfl]; exact hw2.out); have hh2 := (hb2.block h hl).trans HH.out; have c2 : w2.cell? ⟨h, 0, none⟩ = some (.slice sp cs.length cap) := cell_of hh2 0; have f2 := frozen_of hh2 0; have HH2 := Lib.hid hh2; have HB2 := Lib.hid hb2; clear hw2 hb2 hh2))
  go_end0
  have hset := setCell_heap HH2.out 0 (.slice (some ⟨w.heap.size, 0, none⟩) (cs.length + ds.length) (cs.length + ds.length))
  have hfar := (Far.of_below HB2.out (· = h)).setCell (p := ⟨h, 0, none⟩) (fun _ => rfl) (.slice (some ⟨w.heap.size, 0, none⟩) (cs.length + ds.length) (cs.length + ds.length))
  refine ⟨rfl, _, hset, ⟨w.heap.size, by first | rw [HLEN.out] | (have hx := HLEN.out; rw [List.length_append] at hx; rw [hx])⟩, ⟨some ⟨w.heap.size, 0, none⟩, cs.length + ds.length, by first | rw [HLEN.out] | (have hx := HLEN.out; rw [List.length_append] at hx; rw [hx]), fun h0 => ⟨w.heap.size, 0, rfl, ?_, by omega, by rw [HLEN.out]; omega, fun j u hj => ?_⟩⟩, hfar⟩
  · have := lt_of_heap G3.out
    simpa [World.setCell] using this
  · rw [HCD.out] at hj
    have hg3 : (w2.setCell ⟨h, 0, none⟩ (.slice (some ⟨w.heap.size, 0, none⟩) (cs.length + ds.length) (cs.length + ds.length))).heap[w.heap.size]? = some (.cells (cs ++ ds).toArray 5 (0, 0)) := (Below.heap_setCell _ _ _ _ (by show w.heap.size ≠ h; omega)).trans G3.out
    rw [Nat.zero_add, cell_of hg3 j]
    simpa using hj
end Go.Proofs.YtfafidholldjlaaDoor
