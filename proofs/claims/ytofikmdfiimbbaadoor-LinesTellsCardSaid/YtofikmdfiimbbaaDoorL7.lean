/- Split. -/
import Derived.Test.YtofikmdfiimbbaaDoorL5
import Derived.Test.YtofikmdfiimbbaaDoorL6
import Derived.Test.YtofikmdfiimbbaaDoorRange4
set_option linter.unusedVariables false
set_option linter.unusedSimpArgs false
namespace Go.Proofs.YtofikmdfiimbbaaDoor
open Go.RowKit
attribute [local go_sem] setCell_twice
attribute [local go_sem] Oper.semAt_some
/-- Lines, as cells. -/
def lineCells (ls : List Ln.Line) : List Value := ls.flatMap fun x => [.int .i64 x.no, .int .i64 x.ind, .string ⟨x.s.toArray⟩]
theorem lineCells_append (a b : List Ln.Line) : lineCells (a ++ b) = lineCells a ++ lineCells b := by simp [lineCells]
/-- A slice of lines. -/
def Lines (base : Nat) (v : Value) (ls : List Ln.Line) (w : World) : Prop := w.ownsRow base 36 3 v ls.length (lineCells ls)
/-- What stands between two rounds: H: the results' cells; p: the lines'. -/
def SI (s : ByteArray) (w : World) (p : Nat) (t : Nat) (W : World) : Prop :=
  (∃ v, W.heap[p]? = some (.cells #[v] 22 (0, 0)) ∧ Lines (p + 4) v (Ln.lns 1 ((Ln.rows s.data.toList).take t)) W) ∧
  W.heap[w.heap.size]? = some (.cells #[.slice none 0 0] 22 (0, 0)) ∧ W.heap[w.heap.size + 1]? = some (.cells #[.int .i64 0] 3 (0, 0)) ∧ W.heap[w.heap.size + 1 + 1]? = some (.cells #[.int .i64 0] 26 (0, 0)) ∧
  (∀ r ∈ (Ln.rows s.data.toList).take t, Ln.trouble r = 0) ∧ Below w.heap.size w W
/-- What stands where a round has ended all. -/
def SX (s : ByteArray) (w : World) (W : World) : Prop :=
  (Ln.bad 1 (Ln.rows s.data.toList)).2 ≠ 0 ∧ W.heap[w.heap.size]? = some (.cells #[.slice none 0 0] 22 (0, 0)) ∧ W.heap[w.heap.size + 1]? = some (.cells #[.int .i64 (Ln.bad 1 (Ln.rows s.data.toList)).1] 3 (0, 0)) ∧
  W.heap[w.heap.size + 1 + 1]? = some (.cells #[.int .i64 (Ln.bad 1 (Ln.rows s.data.toList)).2] 26 (0, 0)) ∧ Below w.heap.size w W
theorem SI.far {s : ByteArray} {w : World} {p t q : Nat} {W W' : World} (h : SI s w p t W) (hf : Far (· = q) W W') (hp : w.heap.size + 3 ≤ p) (hq : p < q) (hq2 : q < p + 4) : SI s w p t W' := by
  obtain ⟨⟨v, q1, q2⟩, q3, q4, q5, q6, q7⟩ := h
  exact ⟨⟨v, hf.heap q1 (by omega), ownsRow_far q2 hf (by omega)⟩, hf.heap q3 (by omega), hf.heap q4 (by omega), hf.heap q5 (by omega), q6, q7.trans (hf.to_below q7.size (by omega))⟩
theorem SX.far {s : ByteArray} {w : World} {p q : Nat} {W W' : World} (h : SX s w W) (hf : Far (· = q) W W') (hp : w.heap.size + 3 ≤ p) (hq : p < q) : SX s w W' := by
  obtain ⟨q0, q3, q4, q5, q7⟩ := h
  exact ⟨q0, hf.heap q3 (by omega), hf.heap q4 (by omega), hf.heap q5 (by omega), q7.trans (hf.to_below q7.size (by omega))⟩
theorem RS.fars {bs q : Nat} {A B C D : World} (f1 : Far (· = q) A B) (h : RS bs B C) (f3 : Far (· = q) C D) (h1 : bs ≠ q) (h2 : 2 ≠ q) : RS bs A D :=
  ⟨Nat.le_trans f1.size (Nat.le_trans h.1 f3.size), fun k x hk e => f3.heap (h.2 k x hk (f1.heap e (by rcases hk with rfl | rfl; exact h1; exact h2))) (by rcases hk with rfl | rfl; exact h1; exact h2)⟩
theorem RS.of_far {bs : Nat} {D : Nat → Prop} {W W' : World} (h : Far D W W') (h1 : ¬ D bs) (h2 : ¬ D 2) : RS bs W W' :=
  ⟨h.size, fun k x hk e => h.heap e (by rcases hk with rfl | rfl; exact h1; exact h2)⟩
theorem RS.trans {bs : Nat} {A B C : World} (h : RS bs A B) (k : RS bs B C) : RS bs A C := ⟨Nat.le_trans h.1 k.1, fun i x hi e => k.2 i x hi (h.2 i x hi e)⟩
/-- The end of Split: what it was given to tell. -/
theorem split_done {w : World} {Post : Ending → World → Prop} (p : Nat) (W : World) (v : Value) (no er : Int) (a : Act) (h0 : W.heap[w.heap.size]? = some (.cells #[v] 22 (0, 0))) (h1 : W.heap[w.heap.size + 1]? = some (.cells #[.int .i64 no] 3 (0, 0))) (hv : ∃ x l c, v = .slice x l c)
    (h1' : W.heap[w.heap.size + 1 + 1]? = some (.cells #[.int .i64 er] 26 (0, 0))) (hp : w.heap.size + 3 ≤ p)
    (hK : W.heap[p + 2]? = some (.deferred (some []))) (h2 : a.tmps[2]? = some (.pointer (some ⟨w.heap.size, 0, none⟩))) (h3 : a.tmps[3]? = some (.pointer (some ⟨w.heap.size + 1, 0, none⟩))) (h4 : a.tmps[4]? = some (.pointer (some ⟨w.heap.size + 1 + 1, 0, none⟩))) (hd : a.defers = [{ target := .collected (p + 2), args := #[] }])
    (hpost : ∀ W', Far (· = p + 2) W W' → Post (.returned (.tuple #[v, .int .i64 no, .int .i64 er])) W') :
    bodyPostM Fence.wide 5 Tryd.prog Tryd.f12 Post .ret a W := by
  obtain ⟨tm, df⟩ := a
  simp only at hd h2 h3 h4
  subst hd
  refine ⟨by simp, .inl ⟨_, _, rfl, run_takeDeferred hK, ?_⟩⟩
  have hf := far_putObj W (p + 2) (.deferred none)
  have c0 : (W.putObj (p + 2) (.deferred none)).cell? ⟨w.heap.size, 0, none⟩ = some v := cell_of (hf.heap h0 (by omega)) 0
  have c1 : (W.putObj (p + 2) (.deferred none)).cell? ⟨w.heap.size + 1, 0, none⟩ = some (.int .i64 no) := cell_of (hf.heap h1 (by omega)) 0
  have c2 : (W.putObj (p + 2) (.deferred none)).cell? ⟨w.heap.size + 1 + 1, 0, none⟩ = some (.int .i64 er) := cell_of (hf.heap h1' (by omega)) 0
  refine ⟨.tuple #[v, .int .i64 no, .int .i64 er], ?_, hpost _ hf⟩
  obtain ⟨x, l, c, rfl⟩ := hv
  simp [results, Tryd.results12, go_sem, h2, h3, h4, c0, c1, c2]
theorem split_early {w : World} {Post : Ending → World → Prop} (W : World) (v : Value) (no er : Int) (a : Act) (h0 : W.heap[w.heap.size]? = some (.cells #[v] 22 (0, 0))) (h1 : W.heap[w.heap.size + 1]? = some (.cells #[.int .i64 no] 3 (0, 0))) (hv : ∃ x l c, v = .slice x l c)
    (h1' : W.heap[w.heap.size + 1 + 1]? = some (.cells #[.int .i64 er] 26 (0, 0)))
    (h2 : a.tmps[2]? = some (.pointer (some ⟨w.heap.size, 0, none⟩))) (h3 : a.tmps[3]? = some (.pointer (some ⟨w.heap.size + 1, 0, none⟩))) (h4 : a.tmps[4]? = some (.pointer (some ⟨w.heap.size + 1 + 1, 0, none⟩))) (hd : a.defers = [])
    (hpost : Post (.returned (.tuple #[v, .int .i64 no, .int .i64 er])) W) :
    bodyPostM Fence.wide 5 Tryd.prog Tryd.f12 Post .ret a W := by
  obtain ⟨tm, df⟩ := a
  simp only at hd h2 h3 h4
  subst hd
  have c0 : W.cell? ⟨w.heap.size, 0, none⟩ = some v := cell_of h0 0
  have c1 : W.cell? ⟨w.heap.size + 1, 0, none⟩ = some (.int .i64 no) := cell_of h1 0
  have c2 : W.cell? ⟨w.heap.size + 1 + 1, 0, none⟩ = some (.int .i64 er) := cell_of h1' 0
  refine ⟨.tuple #[v, .int .i64 no, .int .i64 er], ?_, hpost⟩
  obtain ⟨x, l, c, rfl⟩ := hv
  simp [results, Tryd.results12, go_sem, h2, h3, h4, c0, c1, c2]
/-- Three stores into three blocks. -/
theorem three_cells {w W : World} (v0 v1 v2 u0 u1 u2 : Value) (h0 : W.heap[w.heap.size]? = some (.cells #[u0] 22 (0, 0))) (h1 : W.heap[w.heap.size + 1]? = some (.cells #[u1] 3 (0, 0))) (h2 : W.heap[w.heap.size + 1 + 1]? = some (.cells #[u2] 26 (0, 0))) :
    (((W.setCell ⟨w.heap.size, 0, none⟩ v0).setCell ⟨w.heap.size + 1, 0, none⟩ v1).setCell ⟨w.heap.size + 1 + 1, 0, none⟩ v2).heap[w.heap.size]? = some (.cells #[v0] 22 (0, 0)) ∧
    (((W.setCell ⟨w.heap.size, 0, none⟩ v0).setCell ⟨w.heap.size + 1, 0, none⟩ v1).setCell ⟨w.heap.size + 1 + 1, 0, none⟩ v2).heap[w.heap.size + 1]? = some (.cells #[v1] 3 (0, 0)) ∧
    (((W.setCell ⟨w.heap.size, 0, none⟩ v0).setCell ⟨w.heap.size + 1, 0, none⟩ v1).setCell ⟨w.heap.size + 1 + 1, 0, none⟩ v2).heap[w.heap.size + 1 + 1]? = some (.cells #[v2] 26 (0, 0)) := by
  refine ⟨?_, ?_, ?_⟩
  · exact (Below.heap_setCell _ _ _ _ (by show w.heap.size ≠ w.heap.size + 1 + 1; omega)).trans ((Below.heap_setCell _ _ _ _ (by show w.heap.size ≠ w.heap.size + 1; omega)).trans (setCell_heap h0 0 _))
  · exact (Below.heap_setCell _ _ _ _ (by show w.heap.size + 1 ≠ w.heap.size + 1 + 1; omega)).trans (setCell_heap ((Below.heap_setCell _ _ _ _ (by show w.heap.size + 1 ≠ w.heap.size; omega)).trans h1) 0 _)
  · exact setCell_heap ((Below.heap_setCell _ _ _ _ (by show w.heap.size + 1 + 1 ≠ w.heap.size + 1; omega)).trans ((Below.heap_setCell _ _ _ _ (by show w.heap.size + 1 + 1 ≠ w.heap.size; omega)).trans h2)) 0 _
theorem info36 : (Tryd.prog.info? 36).map (fun i => (i.zero, i.size, i.bytes)) = some (some (.agg #[.int .i64 0, .int .i64 0, .string ⟨#[]⟩]), 3, 32) := by kernel_rfl
/-- What Split leaves. -/
def SplitPost (s : ByteArray) (w : World) (e : Ending) (w' : World) : Prop :=
  (∃ v, e = .returned (.tuple #[v, .int .i64 (Ln.split s.data.toList).2.1, .int .i64 (Ln.split s.data.toList).2.2]) ∧ Lines w.heap.size v (Ln.split s.data.toList).1 w') ∧ Below w.heap.size w w'
end Go.Proofs.YtofikmdfiimbbaaDoor
