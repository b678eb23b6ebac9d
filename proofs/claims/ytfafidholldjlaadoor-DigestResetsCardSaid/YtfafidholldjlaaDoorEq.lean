/- Two arrays of eight numbers, held against each other. -/
import Derived.Test.YtfafidholldjlaaDoorBase
import Derived.ChangeKeysEq
set_option linter.unusedVariables false
set_option linter.unusedSimpArgs false
namespace Go.Proofs.YtfafidholldjlaaDoor
open Go.RowKit
/-- The same eight numbers? -/
def eq8 (x y : List Int) : Bool := x == y
theorem eq8_iff (x y : List Int) : eq8 x y = true ↔ x = y := by simp [eq8]
theorem eq8_refl (x : List Int) : eq8 x x = true := by simp [eq8]
theorem part_at (e : TypeId) (ha : ∀ w, (isAgg e).run Tryd.prog w = .ok false w) (cs : Array Value) (off : Nat) (v : Value) (h : cs[off]? = some v) (w : World) : (part e cs off).run Tryd.prog w = .ok v w := by
  unfold part
  simp [Sem.run_bind, ha, h, Result.andThen]
theorem eqItems_ints (e : TypeId) (k : IntKind) (ha : ∀ w, (isAgg e).run Tryd.prog w = .ok false w) (he : Tryd.prog.underlying e = some (.int k)) (d : Nat) (w : World) (l m : List Int) : ∀ is : List Nat, (∀ i ∈ is, i < l.length ∧ i < m.length) →
    (Op.eqItems (d + 1) e 1 (l.map (Value.int k)).toArray (m.map (Value.int k)).toArray is).run Tryd.prog w = .ok (is.all fun i => l.getD i 0 == m.getD i 0) w
  | [], _ => by simp [Op.eqItems]
  | i :: is, h => by
    obtain ⟨h1, h2⟩ := h i (by simp)
    have p1 := part_at e ha (l.map (Value.int k)).toArray (i * 1) (.int k (l.getD i 0)) (by simp [h1]) w
    have p2 := part_at e ha (m.map (Value.int k)).toArray (i * 1) (.int k (m.getD i 0)) (by simp [h2]) w
    have p3 : (Op.equalIn (d + 1) e (.int k (l.getD i 0)) (.int k (m.getD i 0))).run Tryd.prog w = .ok (l.getD i 0 == m.getD i 0) w := by
      simp [Op.equalIn, Sem.run_bind, run_underlying he]
    have ih := eqItems_ints e k ha he d w l m is (fun j hj => h j (by simp [hj]))
    simp only [Op.eqItems, Sem.run_bind, p1, p2, p3, Result.andThen_ok]
    by_cases hb : (l.getD i 0 == m.getD i 0) = true
    · simp only [hb, Bool.not_true, Bool.false_eq_true, if_false, ih, List.all_cons, Bool.true_and]
    · have hb' : (l.getD i 0 == m.getD i 0) = false := by simpa using hb
      simp only [hb', Bool.not_false, if_true, Sem.run_pure, List.all_cons, Bool.false_and]
theorem isAgg3 (w : World) : (isAgg 3).run Tryd.prog w = .ok false w := by kernel_rfl
theorem isAgg73 (w : World) : (isAgg 73).run Tryd.prog w = .ok false w := by kernel_rfl
theorem infoSome3 : (Tryd.prog.info? 3).isSome = true := by kernel_rfl
theorem infoSome73 : (Tryd.prog.info? 73).isSome = true := by kernel_rfl
theorem cells3 : Tryd.prog.cellsOf 3 = 1 := by kernel_rfl
theorem cells73 : Tryd.prog.cellsOf 73 = 1 := by kernel_rfl
theorem all8 (x0 x1 x2 x3 x4 x5 x6 x7 y0 y1 y2 y3 y4 y5 y6 y7 : Int) : ((List.range 8).all fun i => ([x0, x1, x2, x3, x4, x5, x6, x7] : List Int).getD i 0 == ([y0, y1, y2, y3, y4, y5, y6, y7] : List Int).getD i 0) = eq8 [x0, x1, x2, x3, x4, x5, x6, x7] [y0, y1, y2, y3, y4, y5, y6, y7] := by
  rw [Bool.eq_iff_iff, eq8_iff]
  simp [List.range, List.range.loop]
theorem equalIn23 (x0 x1 x2 x3 x4 x5 x6 x7 y0 y1 y2 y3 y4 y5 y6 y7 : Int) (w : World) (d : Nat) : (Op.equalIn (d + 2) 23 (.agg #[.int .i64 x0, .int .i64 x1, .int .i64 x2, .int .i64 x3, .int .i64 x4, .int .i64 x5, .int .i64 x6, .int .i64 x7]) (.agg #[.int .i64 y0, .int .i64 y1, .int .i64 y2, .int .i64 y3, .int .i64 y4, .int .i64 y5, .int .i64 y6, .int .i64 y7])).run Tryd.prog w = .ok (eq8 [x0, x1, x2, x3, x4, x5, x6, x7] [y0, y1, y2, y3, y4, y5, y6, y7]) w := by
  obtain ⟨i, hi⟩ := Option.isSome_iff_exists.1 infoSome3
  rw [run_equalIn_array (P := Tryd.prog) w (d + 1) _ _ Tryd.underlying23 hi, cells3]
  have := eqItems_ints 3 .i64 isAgg3 Tryd.underlying3 d w [x0, x1, x2, x3, x4, x5, x6, x7] [y0, y1, y2, y3, y4, y5, y6, y7] (List.range 8) (by intro i hi; have := List.mem_range.1 hi; simp; omega)
  rw [all8] at this
  exact this
theorem eqDeep23 (x0 x1 x2 x3 x4 x5 x6 x7 y0 y1 y2 y3 y4 y5 y6 y7 : Int) (w : World) : (Op.equalIn 10000 23 (.agg #[.int .i64 x0, .int .i64 x1, .int .i64 x2, .int .i64 x3, .int .i64 x4, .int .i64 x5, .int .i64 x6, .int .i64 x7]) (.agg #[.int .i64 y0, .int .i64 y1, .int .i64 y2, .int .i64 y3, .int .i64 y4, .int .i64 y5, .int .i64 y6, .int .i64 y7])).run Tryd.prog w = .ok (eq8 [x0, x1, x2, x3, x4, x5, x6, x7] [y0, y1, y2, y3, y4, y5, y6, y7]) w := equalIn23 x0 x1 x2 x3 x4 x5 x6 x7 y0 y1 y2 y3 y4 y5 y6 y7 w 9998
theorem equalIn78 (x0 x1 x2 x3 x4 x5 x6 x7 y0 y1 y2 y3 y4 y5 y6 y7 : Int) (w : World) (d : Nat) : (Op.equalIn (d + 2) 78 (.agg #[.int .u32 x0, .int .u32 x1, .int .u32 x2, .int .u32 x3, .int .u32 x4, .int .u32 x5, .int .u32 x6, .int .u32 x7]) (.agg #[.int .u32 y0, .int .u32 y1, .int .u32 y2, .int .u32 y3, .int .u32 y4, .int .u32 y5, .int .u32 y6, .int .u32 y7])).run Tryd.prog w = .ok (eq8 [x0, x1, x2, x3, x4, x5, x6, x7] [y0, y1, y2, y3, y4, y5, y6, y7]) w := by
  obtain ⟨i, hi⟩ := Option.isSome_iff_exists.1 infoSome73
  rw [run_equalIn_array (P := Tryd.prog) w (d + 1) _ _ Tryd.underlying78 hi, cells73]
  have := eqItems_ints 73 .u32 isAgg73 Tryd.underlying73 d w [x0, x1, x2, x3, x4, x5, x6, x7] [y0, y1, y2, y3, y4, y5, y6, y7] (List.range 8) (by intro i hi; have := List.mem_range.1 hi; simp; omega)
  rw [all8] at this
  exact this
theorem eqDeep78 (x0 x1 x2 x3 x4 x5 x6 x7 y0 y1 y2 y3 y4 y5 y6 y7 : Int) (w : World) : (Op.equalIn 10000 78 (.agg #[.int .u32 x0, .int .u32 x1, .int .u32 x2, .int .u32 x3, .int .u32 x4, .int .u32 x5, .int .u32 x6, .int .u32 x7]) (.agg #[.int .u32 y0, .int .u32 y1, .int .u32 y2, .int .u32 y3, .int .u32 y4, .int .u32 y5, .int .u32 y6, .int .u32 y7])).run Tryd.prog w = .ok (eq8 [x0, x1, x2, x3, x4, x5, x6, x7] [y0, y1, y2, y3, y4, y5, y6, y7]) w := equalIn78 x0 x1 x2 x3 x4 x5 x6 x7 y0 y1 y2 y3 y4 y5 y6 y7 w 9998
attribute [go_sem] eqDeep23 eqDeep78
end Go.Proofs.YtfafidholldjlaaDoor
