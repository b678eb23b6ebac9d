/- What the program's text says of the row. -/
import Derived.Test.YtbikgdhbiebhcaaGreatDoorCk3
set_option linter.unusedVariables false
set_option linter.unusedSimpArgs false
set_option maxRecDepth 100000
set_option maxHeartbeats 2000000
namespace Go.Proofs.YtbikgdhbiebhcaaGreatDoor
open Go.ChangeShapes Go.WideShapes Go.ChangeAt Go.RowKit
theorem jk0:Rows.topKeysRow.wf (OpenSpec.ofChange Rows.topKeysSpec)=true:=by kernel_rfl
theorem jk1:laidOutB Tryz.prog=true:=by kernel_rfl
theorem jk2:mapsRowed Tryz.prog=true:=by kernel_rfl
theorem jk3:Tryz.f4.params.all (Tryz.prog.readableRec ·)=true:=by kernel_rfl
theorem jk4:namedTie Tryz.prog Rows.topKeysRow.named Rows.topKeysSpec.vars=true:=by kernel_rfl
theorem jk5:(Rows.topKeysRow.stops==[])=true:=by kernel_rfl
theorem jk6:(Tryz.prog.stops==[])=true:=by kernel_rfl
theorem jk7:(Rows.topKeysRow.knobs==[])=true:=by kernel_rfl
theorem jk8:(Tryz.prog.stopKnobs==[])=true:=by kernel_rfl
theorem jk9:(Rows.topKeysRow.inPlace==Tryz.prog.inPlace 4)=true:=by kernel_rfl
theorem jk10:(Rows.topKeysRow.unfollowed==Tryz.prog.unfollowed 4)=true:=by kernel_rfl
theorem jk11:(Rows.topKeysRow.recurses==Tryz.prog.recurses 4)=true:=by kernel_rfl
theorem jk12:(Rows.topKeysRow.named==Tryz.prog.varsNamed 4)=true:=by kernel_rfl
theorem jk13:(Rows.topKeysRow.maps==(Tryz.f4.params.toList++Rows.topKeysSpec.plain.varTypes Tryz.prog).any (Tryz.prog.mapsRec ·))=true:=by kernel_rfl
theorem jk14:(Rows.topKeysRow.ifaces==(Tryz.f4.params.toList++Rows.topKeysSpec.plain.varTypes Tryz.prog).any (Tryz.prog.ifacesRec ·))=true:=by kernel_rfl
theorem jk15:(Rows.topKeysRow.mapsOut==Tryz.prog.mapsAmong Tryz.f4.resultTypes.toList)=true:=by kernel_rfl
theorem jk16:(Rows.topKeysRow.loops==(Tryz.f4.params.toList++Rows.topKeysSpec.plain.varTypes Tryz.prog).any (Tryz.prog.loopsFrom ·))=true:=by kernel_rfl
theorem jk17:(Rows.topKeysRow.wideKeys==(Tryz.f4.params.toList++Rows.topKeysSpec.plain.varTypes Tryz.prog++Tryz.f4.resultTypes.toList).any (Tryz.prog.wideKeysFrom ·))=true:=by kernel_rfl
theorem jk18:Rows.topKeysSpec.vars.all (Tryz.prog.varReadable ·)=true:=by kernel_rfl
theorem jk19:Tryz.f4.resultTypes.all (λt=>Tryz.prog.readableRec t&&decide (t < Tryz.prog.types.size))=true:=by kernel_rfl
theorem jk20:(Rows.topKeysRow.ifacesOut==Tryz.f4.resultTypes.toList.any (Tryz.prog.ifacesRec ·))=true:=by kernel_rfl
theorem jk21:(Rows.topKeysRow.loopsOut==Tryz.f4.resultTypes.toList.any (Tryz.prog.loopsFrom ·))=true:=by kernel_rfl
theorem jk22:(Rows.topKeysRow.plainKeys==Tryz.prog.plainKeys)=true:=by kernel_rfl
theorem jk23:Rows.topKeysRow.shortTexts.isNone=true:=by kernel_rfl
theorem jk24:Tryz.prog.stopsHeard=true:=by kernel_rfl
theorem jk26:(Rows.topKeysRow.lifted==Tryz.prog.liftsFinal)=true:=by rw[lifts];kernel_rfl
theorem jk27:(Tryz.prog.make==some Rows.topKeysRow.make)=true:=by rw[make_cut];kernel_rfl
theorem jk28:(Rows.topKeysRow.kinds==(if Rows.topKeysRow.domain.isEmpty then []else Tryz.f4.params.toList.map λt=>match Tryz.prog.underlying t with | some (.int k)=>some k | _=>none))=true:=by kernel_rfl
theorem jk29:(Rows.topKeysRow.pinned==Rows.topKeysRow.pinnedBy)=true:=by kernel_rfl
theorem jk30:(Rows.topKeysRow.veiled==(Tryz.f4.params.toList++Rows.topKeysSpec.plain.varTypes Tryz.prog++Tryz.f4.resultTypes.toList).any (Tryz.prog.veiledRec ·))=true:=by kernel_rfl
theorem jk31:Rows.topKeysRow.veiledFits Tryz.prog Tryz.f4.params.toList (Tryz.f4.params.toList++Rows.topKeysSpec.plain.varTypes Tryz.prog++Tryz.f4.resultTypes.toList)=true:=by kernel_rfl
theorem jkfacts:joinedFacts Tryz.prog 4 Tryz.f4 Rows.topKeysSpec Rows.topKeysRow=true:=by
  unfold joinedFacts
  simp only[Bool.and_eq_true]
  exact⟨⟨⟨⟨⟨⟨⟨⟨⟨⟨⟨⟨⟨⟨⟨⟨⟨⟨⟨⟨⟨⟨⟨⟨⟨⟨⟨⟨⟨⟨⟨jk0,jk1⟩,jk2⟩,jk3⟩,jk4⟩,jk5⟩,jk6⟩,jk7⟩,jk8⟩,jk9⟩,jk10⟩,jk11⟩,jk12⟩,jk13⟩,jk14⟩,jk15⟩,jk16⟩,jk17⟩,jk18⟩,jk19⟩,jk20⟩,jk21⟩,jk22⟩,jk23⟩,jk24⟩,may⟩,jk26⟩,jk27⟩,jk28⟩,jk29⟩,jk30⟩,jk31⟩
end Go.Proofs.YtbikgdhbiebhcaaGreatDoor
