/- What the program's text says of the row. -/
import Derived.Test.YtbikgdhbiebhcaaGreatDoorCc3
set_option linter.unusedVariables false
set_option linter.unusedSimpArgs false
set_option maxRecDepth 100000
set_option maxHeartbeats 2000000
namespace Go.Proofs.YtbikgdhbiebhcaaGreatDoor
open Go.ChangeShapes Go.WideShapes Go.ChangeAt Go.RowKit
theorem js0 : Rows.topStylesRow.wf (OpenSpec.ofChange Rows.topStylesSpec) = true := by kernel_rfl
theorem js1 : laidOutB Tryz.prog = true := by kernel_rfl
theorem js2 : mapsRowed Tryz.prog = true := by kernel_rfl
theorem js3 : Tryz.f3.params.all (Tryz.prog.readableRec ·) = true := by kernel_rfl
theorem js4 : namedTie Tryz.prog Rows.topStylesRow.named Rows.topStylesSpec.vars = true := by kernel_rfl
theorem js5 : (Rows.topStylesRow.stops == []) = true := by kernel_rfl
theorem js6 : (Tryz.prog.stops == []) = true := by kernel_rfl
theorem js7 : (Rows.topStylesRow.knobs == []) = true := by kernel_rfl
theorem js8 : (Tryz.prog.stopKnobs == []) = true := by kernel_rfl
theorem js9 : (Rows.topStylesRow.inPlace == Tryz.prog.inPlace 3) = true := by kernel_rfl
theorem js10 : (Rows.topStylesRow.unfollowed == Tryz.prog.unfollowed 3) = true := by kernel_rfl
theorem js11 : (Rows.topStylesRow.recurses == Tryz.prog.recurses 3) = true := by kernel_rfl
theorem js12 : (Rows.topStylesRow.named == Tryz.prog.varsNamed 3) = true := by kernel_rfl
theorem js13 : (Rows.topStylesRow.maps == (Tryz.f3.params.toList ++ Rows.topStylesSpec.plain.varTypes Tryz.prog).any (Tryz.prog.mapsRec ·)) = true := by kernel_rfl
theorem js14 : (Rows.topStylesRow.ifaces == (Tryz.f3.params.toList ++ Rows.topStylesSpec.plain.varTypes Tryz.prog).any (Tryz.prog.ifacesRec ·)) = true := by kernel_rfl
theorem js15 : (Rows.topStylesRow.mapsOut == Tryz.prog.mapsAmong Tryz.f3.resultTypes.toList) = true := by kernel_rfl
theorem js16 : (Rows.topStylesRow.loops == (Tryz.f3.params.toList ++ Rows.topStylesSpec.plain.varTypes Tryz.prog).any (Tryz.prog.loopsFrom ·)) = true := by kernel_rfl
theorem js17 : (Rows.topStylesRow.wideKeys == (Tryz.f3.params.toList ++ Rows.topStylesSpec.plain.varTypes Tryz.prog ++ Tryz.f3.resultTypes.toList).any (Tryz.prog.wideKeysFrom ·)) = true := by kernel_rfl
theorem js18 : Rows.topStylesSpec.vars.all (Tryz.prog.varReadable ·) = true := by kernel_rfl
theorem js19 : Tryz.f3.resultTypes.all (fun t => Tryz.prog.readableRec t && decide (t < Tryz.prog.types.size)) = true := by kernel_rfl
theorem js20 : (Rows.topStylesRow.ifacesOut == Tryz.f3.resultTypes.toList.any (Tryz.prog.ifacesRec ·)) = true := by kernel_rfl
theorem js21 : (Rows.topStylesRow.loopsOut == Tryz.f3.resultTypes.toList.any (Tryz.prog.loopsFrom ·)) = true := by kernel_rfl
theorem js22 : (Rows.topStylesRow.plainKeys == Tryz.prog.plainKeys) = true := by kernel_rfl
theorem js23 : Rows.topStylesRow.shortTexts.isNone = true := by kernel_rfl
theorem js24 : Tryz.prog.stopsHeard = true := by kernel_rfl
theorem js26 : (Rows.topStylesRow.lifted == Tryz.prog.liftsFinal) = true := by rw [lifts]; kernel_rfl
theorem js27 : (Tryz.prog.make == some Rows.topStylesRow.make) = true := by rw [make_cut]; kernel_rfl
theorem js28 : (Rows.topStylesRow.kinds == (if Rows.topStylesRow.domain.isEmpty then [] else Tryz.f3.params.toList.map fun t => match Tryz.prog.underlying t with | some (.int k) => some k | _ => none)) = true := by kernel_rfl
theorem js29 : (Rows.topStylesRow.pinned == Rows.topStylesRow.pinnedBy) = true := by kernel_rfl
theorem js30 : (Rows.topStylesRow.veiled == (Tryz.f3.params.toList ++ Rows.topStylesSpec.plain.varTypes Tryz.prog ++ Tryz.f3.resultTypes.toList).any (Tryz.prog.veiledRec ·)) = true := by kernel_rfl
theorem js31 : Rows.topStylesRow.veiledFits Tryz.prog Tryz.f3.params.toList (Tryz.f3.params.toList ++ Rows.topStylesSpec.plain.varTypes Tryz.prog ++ Tryz.f3.resultTypes.toList) = true := by kernel_rfl
theorem jsfacts : joinedFacts Tryz.prog 3 Tryz.f3 Rows.topStylesSpec Rows.topStylesRow = true := by
  unfold joinedFacts
  simp only [Bool.and_eq_true]
  exact ⟨⟨⟨⟨⟨⟨⟨⟨⟨⟨⟨⟨⟨⟨⟨⟨⟨⟨⟨⟨⟨⟨⟨⟨⟨⟨⟨⟨⟨⟨⟨js0, js1⟩, js2⟩, js3⟩, js4⟩, js5⟩, js6⟩, js7⟩, js8⟩, js9⟩, js10⟩, js11⟩, js12⟩, js13⟩, js14⟩, js15⟩, js16⟩, js17⟩, js18⟩, js19⟩, js20⟩, js21⟩, js22⟩, js23⟩, js24⟩, may⟩, js26⟩, js27⟩, js28⟩, js29⟩, js30⟩, js31⟩
end Go.Proofs.YtbikgdhbiebhcaaGreatDoor
