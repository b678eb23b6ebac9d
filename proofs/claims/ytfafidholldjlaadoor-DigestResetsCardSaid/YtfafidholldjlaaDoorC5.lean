/- What the rows of law02 lay: errors.errorType besides. -/
import Derived.Test.YtfafidholldjlaaDoorC2
import Derived.Test.YtfafidholldjlaaDoorE13
import Derived.LaidHandle
set_option linter.unusedVariables false
set_option linter.unusedSimpArgs false
namespace Go.Proofs.YtfafidholldjlaaDoor
open Go.ChangeShapes Go.WideShapes Go.ChangeAt Go.RowKit
theorem g4 : Tryd.prog.globalNamed "errors.errorType" = some 4 := by kernel_rfl
theorem rtypeT : (Tryd.prog.cutTypes.find? (·.1 == "internal/reflectlite.rtype")).map (·.2) = some 157 := by kernel_rfl
theorem typesN : Tryd.prog.types.size = 203 := by kernel_rfl
theorem oneError : ((List.range 203).filter fun t => Tryd.prog.rowNamed t [101, 114, 114, 111, 114]) = [67] := by kernel_rfl
theorem dglob_of {W : World} (hs : W.ShapedOpen Tryd.prog) (h : laidMetH Tryd.prog Rows.digestTwoRow.laid W) : ∃ aw ab, DGlob W.heap.size aw ab W := by
  have f1 : (Rows.digestTwoRow.laid.filter fun x => x.2.handleName?.isSome) = [("errors.errorType", Rows.laid_errors_errorType)] := by rfl
  have f2 : (Rows.digestTwoRow.laid.filter fun x => x.2.handleName?.isNone) = [("sigillary/rounds.errBlock", Rows.laid_sigillary_rounds_errBlock), ("sigillary/rounds.errWord", Rows.laid_sigillary_rounds_errWord), ("sigillary/rounds.constants", Rows.laid_sigillary_rounds_constants)] := by rfl
  unfold laidMetH at h
  rw [f1, f2] at h
  have h' := h
  obtain ⟨aw, ab, hg⟩ := glob_of hs h'.1
  refine ⟨aw, ab, hg, ?_⟩
  obtain ⟨name, u, ty, e1, e2, e3, e4, e5⟩ := h'.2 _ (List.mem_cons_self ..)
  have en : name = [101, 114, 114, 111, 114] := (Option.some.inj e1).symm
  subst en
  obtain rfl := Option.some.inj (rtypeT.symm.trans e2)
  have hm : ty ∈ (List.range 203).filter fun t => Tryd.prog.rowNamed t [101, 114, 114, 111, 114] := List.mem_filter.2 ⟨List.mem_range.2 (by rw [← typesN]; exact e3), e4⟩
  rw [oneError] at hm
  obtain rfl := List.mem_singleton.1 hm
  have hh : typeHandle Tryd.prog 67 = .pointer (some ⟨6, 67, none⟩) := by kernel_rfl
  rw [hh] at e5
  simpa using World.var?_cell g4 e5 0
noncomputable def laidWorldE (os : Os) : World :=
  let w0 := laidWorld os
  { w0 with heap := w0.heap.modify 4 fun
      | .cells _ t frozen => .cells #[.iface 157 (.agg #[.pointer (some ⟨6, 67, none⟩)])] t frozen
      | o => o }
theorem laid_met_two (os : Os) (args : Array Value) : laidMetH Tryd.prog Rows.digestTwoRow.laid ((laidWorldE os).forCall (fun _ _ => 0) ⟨#[], args, []⟩).memory :=
  laidMetH_of_parts (laidMet_of_run' 8 (by kernel_rfl) (by kernel_rfl)) (by kernel_rfl)
end Go.Proofs.YtfafidholldjlaaDoor
