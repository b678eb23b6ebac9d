/- What the rows lay. -/
import Derived.Test.YtbikgdhbiebhcaaGreatDoorV00
import Derived.Test.YtbikgdhbiebhcaaGreatDoorV14
import Derived.Test.YtbikgdhbiebhcaaGreatDoorCards
import Derived.Test.YtbikgdhbiebhcaaGreatDoorTie
import Derived.WalkKit
import Derived.ProofKit
import Derived.OpenShut
import Derived.Deep.DeepHandedRow
import Derived.Deep.DeepWitnessRowRef
import Derived.Lib.LaidU8
import Derived.Lib.LaidTab
import Derived.Stop.LaidErr
import Derived.Shelf.Vars
set_option linter.unusedVariables false
set_option linter.unusedSimpArgs false
set_option maxRecDepth 100000
set_option maxHeartbeats 2000000
namespace Go.Proofs.YtbikgdhbiebhcaaGreatDoor
open Go.ChangeShapes Go.WideShapes Go.ChangeAt Go.RowKit
theorem own:ownKnob Tryz.prog.godebug=none:=by kernel_rfl
theorem u8extra:U8Extra Tryz.prog Tryz.lays260_ren:={
  n3:=by kernel_rfl
  n4:=by kernel_rfl
  y3:=by kernel_rfl
  y4:=by kernel_rfl
  c5:=by kernel_rfl
  c119:=by kernel_rfl
  c138:=by kernel_rfl }
theorem first_eq:(Rows.laid_unicode_utf8_first:DataW Unit)=Lib.firstData:=by kernel_rfl
theorem accept_eq:(Rows.laid_unicode_utf8_acceptRanges:DataW Unit)=Lib.acceptData:=by kernel_rfl
theorem pow_eq:(Rows.laid_internal_strconv_uint64pow10:DataW Unit)=Lib.tabData .u64 Lib.pow10Tab:=by kernel_rfl
theorem g3 : Tryz.prog.globalNamed "sigillary/compose.errTree" = some 3 := by kernel_rfl
theorem g3t:(Tryz.prog.globals[3]?).map (·.type)=some 41:=by kernel_rfl
theorem g4t:(Tryz.prog.globals[4]?).map (·.type)=some 351:=by kernel_rfl
theorem cells524:Tryz.prog.cellsOf 524=1:=by kernel_rfl
theorem cellsS:Tryz.prog.cellsOf 9=1:=by kernel_rfl
theorem cellsU:Tryz.prog.cellsOf 50=1:=by kernel_rfl
theorem cells351:Tryz.prog.cellsOf 351=20:=by kernel_rfl
theorem star : "*" ++ "errors.errorString" = "*errors.errorString" := by decide
theorem row522 (u : TypeId) (h : Tryz.prog.typeName? 3 u = some "*errors.errorString") : u = 522 :=
  typeName_ptr_named (nm := "errors.errorString") (by rw [star]; kernel_rfl) (by kernel_rfl) (by decide) u (by rw [star]; exact h)
theorem ten_of {W:World} (h:W.ShapedOpen Tryz.prog):10<=W.heap.size:=by
  obtain⟨⟨z,t⟩,hz⟩:=Option.isSome_iff_exists.1 (show (((begin Tryz.prog (λ_ _=>0) default).world.heap[9]?).bind Obj.row?).isSome=true by kernel_rfl)
  obtain⟨cs,hc,_⟩:=h.1 9 z t (of_decide_eq_true (by kernel_rfl)) hz
  exact lt_of_heap hc
theorem rest_eq : (Rows.topKeysRow.laid.filter fun x => x.2.handleName?.isNone) = [("math/bits.deBruijn32tab", Rows.laid_math_bits_deBruijn32tab), ("math/bits.deBruijn64tab", Rows.laid_math_bits_deBruijn64tab), ("internal/strconv.uint64pow10", Rows.laid_internal_strconv_uint64pow10), ("unicode/utf8.acceptRanges", Rows.laid_unicode_utf8_acceptRanges), ("strconv.ErrRange", Rows.laid_strconv_ErrRange), ("strconv.ErrSyntax", Rows.laid_strconv_ErrSyntax), ("sigillary/compose.errTree", Rows.laid_sigillary_compose_errTree), ("unicode/utf8.first", Rows.laid_unicode_utf8_first)] := by kernel_rfl
theorem hands_eq : (Rows.topKeysRow.laid.filter fun x => x.2.handleName?.isSome) = [("errors.errorType", Rows.laid_errors_errorType)] := by kernel_rfl
theorem glob_of {W:World} (hs:W.ShapedOpen Tryz.prog) (h:laidMetH Tryz.prog Rows.topKeysRow.laid W):Glob W:=by
  have h' : laidMet Tryz.prog [("math/bits.deBruijn32tab", Rows.laid_math_bits_deBruijn32tab), ("math/bits.deBruijn64tab", Rows.laid_math_bits_deBruijn64tab), ("internal/strconv.uint64pow10", Rows.laid_internal_strconv_uint64pow10), ("unicode/utf8.acceptRanges", Rows.laid_unicode_utf8_acceptRanges), ("strconv.ErrRange", Rows.laid_strconv_ErrRange), ("strconv.ErrSyntax", Rows.laid_strconv_ErrSyntax), ("sigillary/compose.errTree", Rows.laid_sigillary_compose_errTree), ("unicode/utf8.first", Rows.laid_unicode_utf8_first)] W := by
    unfold laidMetH at h
    rw[hands_eq]at h
    simp only at h
    rw[rest_eq]at h
    exact h.1
  have hE:=laid_sentinel h'.tail.tail.tail.tail.tail.tail g3 g3t Tryz.underlying41 row522 Tryz.underlying522 Tryz.underlying524 rfl rfl Tryz.underlying9 cells524 cellsS
  obtain⟨a,s,hv,_⟩:=hE
  have hc3:W.cell? ⟨3,0,none⟩=some (.iface 522 (.pointer (some a))):=by simpa using World.var?_cell g3 hv 0
  have h2:=h'.tail.tail
  rw[pow_eq]at h2
  have hp:=Lib.tabIs_of_head named4 g4t Tryz.underlying351 Tryz.underlying50 cellsU cells351 h2
  rw[first_eq,accept_eq]at h'
  have r3 := Lib.laidMet.reads h' (n := "unicode/utf8.first") (d := Lib.firstData) (by simp)
  have r4 := Lib.laidMet.reads h' (n := "unicode/utf8.acceptRanges") (d := Lib.acceptData) (by simp)
  have hT:=utf8Tabs_of_reads Tryz.lays260 u8extra r3 r4
  obtain⟨m,hm0⟩:=Tryz.laysM145.s1_3 W hs
  exact⟨ten_of hs,hT,⟨m,hm0⟩,⟨_,_,hc3⟩,hp⟩
theorem gErr0 : Tryz.prog.globalNamed "errors.errorType" = some 2 := by kernel_rfl
theorem rtypeT : (Tryz.prog.cutTypes.find? (·.1 == "internal/reflectlite.rtype")).map (·.2) = some 233 := by kernel_rfl
theorem typesK:Tryz.prog.types.size=553:=by kernel_rfl
theorem oneError:((List.range 553).filter λt=>Tryz.prog.rowNamed t [101,114,114,111,114])=[41]:=by kernel_rfl
theorem errG_of {W:World} (hs:W.ShapedOpen Tryz.prog) (h:laidMetH Tryz.prog Rows.topKeysRow.laid W):DZ W:=by
  have h0:=h
  unfold laidMetH at h
  rw[hands_eq]at h
  simp only at h
  rw[rest_eq]at h
  obtain⟨h',h2⟩:=h
  have hE:=laid_sentinel h'.tail.tail.tail.tail.tail.tail g3 g3t Tryz.underlying41 row522 Tryz.underlying522 Tryz.underlying524 rfl rfl Tryz.underlying9 cells524 cellsS
  obtain⟨a,s,hv,_⟩:=hE
  refine⟨ten_of hs,⟨a,by simpa using World.var?_cell g3 hv 0⟩,?_⟩
  obtain⟨name,u,ty,e1,e2,e3,e4,e5⟩:=h2 _ (List.mem_cons_self ..)
  have en:name=[101,114,114,111,114]:=(Option.some.inj e1).symm
  subst en
  obtain rfl:=Option.some.inj (rtypeT.symm.trans e2)
  have hm:ty∈(List.range 553).filter λt=>Tryz.prog.rowNamed t [101,114,114,111,114]:=List.mem_filter.2 ⟨List.mem_range.2 (by rw[<-typesK];exact e3),e4⟩
  rw[oneError]at hm
  obtain rfl:=List.mem_singleton.1 hm
  have hh:typeHandle Tryz.prog 41=.pointer (some ⟨10,41,none⟩):=by kernel_rfl
  rw[hh]at e5
  simpa using World.var?_cell gErr0 e5 0
end Go.Proofs.YtbikgdhbiebhcaaGreatDoor
