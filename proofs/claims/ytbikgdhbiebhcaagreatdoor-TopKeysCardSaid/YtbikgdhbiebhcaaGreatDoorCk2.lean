/- A world that holds what the rows lay. -/
import Derived.Test.YtbikgdhbiebhcaaGreatDoorCk1
import Derived.LaidHandle
set_option linter.unusedVariables false
set_option linter.unusedSimpArgs false
set_option maxRecDepth 100000
set_option maxHeartbeats 2000000
namespace Go.Proofs.YtbikgdhbiebhcaaGreatDoor
open Go.ChangeShapes Go.WideShapes Go.ChangeAt Go.RowKit
noncomputable def low:Nat:=(World.holding Tryz.prog default ⟨#[],#[],[]⟩).heap.size
def litV:DataW Unit->Value
  | .lit (.int k n)=>.int k n
  | _=>.nilIface
def rowV:DataW Unit->Array Value
  | .agg l=>(l.map litV).toArray
  | _=>#[]
noncomputable def laidWorld (os:Os):World:=
  let w0:=World.holding Tryz.prog os ⟨#[.cells #[.string ⟨#[110,111,32,103,114,97,112,104]⟩] 524,.cells #[.string ⟨#[105,110,118,97,108,105,100,32,115,121,110,116,97,120]⟩] 524,.cells #[.string ⟨#[118,97,108,117,101,32,111,117,116,32,111,102,32,114,97,110,103,101]⟩] 524],#[],[]⟩
  let put (h:Array Obj) (g:Nat) (cs:Array Value):Array Obj:=h.modify g fun
    | .cells _ t frozen=>.cells cs t frozen
    | o=>o
  let h1:=put w0.heap 0 ((List.range 256).map λc=>Value.int .u8 (Lib.firstT c:Nat)).toArray
  let h2:=put h1 1 ((List.range 16).flatMap λi=>[Value.int .u8 (Lib.accLo i:Nat),Value.int .u8 (Lib.accHi i:Nat)]).toArray
  let h3:=put h2 2 #[.iface 233 (.agg #[typeHandle Tryz.prog 41])]
  let h4:=put h3 3 #[.iface 522 (.pointer (some ⟨low,0,none⟩))]
  let h5:=put h4 4 (rowV Rows.laid_internal_strconv_uint64pow10)
  let h6:=put h5 6 (rowV Rows.laid_math_bits_deBruijn32tab)
  let h7:=put h6 7 (rowV Rows.laid_math_bits_deBruijn64tab)
  let h8:=put h7 8 #[.iface 522 (.pointer (some ⟨low+1,0,none⟩))]
  let h9:=put h8 9 #[.iface 522 (.pointer (some ⟨low+2,0,none⟩))]
  { w0 with heap:=h9 }
theorem laid_met (os:Os) (args:Array Value):laidMetH Tryz.prog Rows.topKeysRow.laid ((laidWorld os).forCall (λ_ _=>0) ⟨#[],args,[]⟩).memory:=
  laidMetH_of_parts (laidMet_of_run' 8 (by kernel_rfl) (by kernel_rfl)) (by kernel_rfl)
end Go.Proofs.YtbikgdhbiebhcaaGreatDoor
