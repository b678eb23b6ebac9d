/- Two lines, held against each other. -/
import Derived.Test.YtofikmdfiimbbaaDoorGb
import Derived.Laws.StructEq
set_option linter.unusedVariables false
set_option linter.unusedSimpArgs false
namespace Go.Proofs.YtofikmdfiimbbaaDoor
open Go.RowKit
theorem aggF3 (w : World) : (isAgg 3).run Tryd.prog w = .ok false w := by kernel_rfl
theorem aggF9 (w : World) : (isAgg 9).run Tryd.prog w = .ok false w := by kernel_rfl
theorem fields36 : Tryd.prog.underlying 36 = some (.struct (Tryd.prog.fieldsOf 36)) := by kernel_rfl
theorem stood36 : Tryd.prog.stoodInHeld 36 = false := by kernel_rfl
theorem guard36 : Tryd.prog.eqGuardType Tryd.prog.depth 36 = false := by kernel_rfl
theorem list36 : (Tryd.prog.fieldsOf 36).toList = [{ name := "No", type := 3, offset := 0, embedded := false, tag := "", pkgPath := "", byteOffset := 0 }, { name := "In", type := 3, offset := 1, embedded := false, tag := "", pkgPath := "", byteOffset := 8 }, { name := "S", type := 9, offset := 2, embedded := false, tag := "", pkgPath := "", byteOffset := 16 }] := by kernel_rfl
theorem eqIn36 (d : Nat) (n1 i1 n2 i2 : Int) (s1 s2 : ByteArray) (w : World) : (Op.equalIn (d + 1 + 1) 36 (.agg #[.int .i64 n1, .int .i64 i1, .string s1]) (.agg #[.int .i64 n2, .int .i64 i2, .string s2])).run Tryd.prog w = .ok ((n1 == n2) && ((i1 == i2) && (s1.toList == s2.toList))) w := by
  have e1 := run_equalIn_int (P := Tryd.prog) w d 3 .i64 .i64 n1 n2 Tryd.underlying3
  have e2 := run_equalIn_int (P := Tryd.prog) w d 3 .i64 .i64 i1 i2 Tryd.underlying3
  have e3 := run_equalIn_string (P := Tryd.prog) w d 9 s1 s2 Tryd.underlying9
  rw [run_equalIn_struct (P := Tryd.prog) w (d + 1) 36 _ _ fields36 stood36, list36]
  have p1 : ∀ (a b : Value) (c : Value), (part 3 #[a, b, c] 0).run Tryd.prog w = .ok a w := fun a b c => by unfold part; simp [Sem.run_bind, aggF3, Result.andThen]
  have p2 : ∀ (a b : Value) (c : Value), (part 3 #[a, b, c] 1).run Tryd.prog w = .ok b w := fun a b c => by unfold part; simp [Sem.run_bind, aggF3, Result.andThen]
  have p3 : ∀ (a b : Value) (c : Value), (part 9 #[a, b, c] 2).run Tryd.prog w = .ok c w := fun a b c => by unfold part; simp [Sem.run_bind, aggF9, Result.andThen]
  cases h1 : (n1 == n2) <;> cases h2 : (i1 == i2) <;> cases h3 : (s1.toList == s2.toList) <;> simp [Op.eqFields, Sem.run_bind, p1, p2, p3, e1, e2, e3, h1, h2, h3, Result.andThen]
theorem eqDeep36 (n1 i1 n2 i2 : Int) (s1 s2 : ByteArray) (w : World) : (Op.equalIn 10000 36 (.agg #[.int .i64 n1, .int .i64 i1, .string s1]) (.agg #[.int .i64 n2, .int .i64 i2, .string s2])).run Tryd.prog w = .ok ((n1 == n2) && ((i1 == i2) && (s1.toList == s2.toList))) w := eqIn36 9998 n1 i1 n2 i2 s1 s2 w
/-- The same line? -/
def eqL (n1 i1 : Int) (s1 : ByteArray) (n2 i2 : Int) (s2 : ByteArray) : Bool := (n1 == n2) && ((i1 == i2) && (s1.toList == s2.toList))
theorem eqL_iff (n1 i1 : Int) (s1 : ByteArray) (n2 i2 : Int) (s2 : ByteArray) : eqL n1 i1 s1 n2 i2 s2 = decide ((n1 = n2 ∧ i1 = i2) ∧ s1.data.toList = s2.data.toList) := by
  unfold eqL
  rw [text_eq, Bool.eq_iff_iff]
  simp [and_assoc]
theorem neq36 (n1 i1 n2 i2 : Int) (s1 s2 : ByteArray) (w : World) : (binOp .neq 36 (.agg #[.int .i64 n1, .int .i64 i1, .string s1]) (.agg #[.int .i64 n2, .int .i64 i2, .string s2])).run Tryd.prog w = .ok (.bool (!(eqL n1 i1 s1 n2 i2 s2))) w := by
  rw [run_neq_struct, eqDeep36]
  rfl
attribute [go_sem ↓] neq36
attribute [go_sem] guard36
end Go.Proofs.YtofikmdfiimbbaaDoor
