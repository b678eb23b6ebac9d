/-
  NARROWER THAN 'FOR EVERY INPUT', by the rows' own cells (each row's printed sentence says how): RoundsTells: laid · RoundsParts: laid · RoundsWords: laid · RoundsBack: laid · RoundsWhole: laid · RoundsApart: laid · DigestTells: laid · DigestPieces: laid · DigestBlocks: laid · DigestEnds: laid · DigestTwo: laid · DigestPlays: laid · DigestResets: laid · TagTells: laid · TagKeys: laid · TagBack: laid · TagEnds: laid · TagParts: laid · TagJoins: laid · TagEqual: laid.
  DERIVED. THE GIVEN ROWS OF THIS SEAT. 20 by the template 'for every input the law returns true; each argument reads behind the call as it read before'; 0 by the template 'total and deterministic' (their statements: YtfafidholldjlaaDoorTotals.lean).
  GIVEN WITH THE SEED: the statements are not yours to turn. If you find one false, say at which input.
  Laid BY PROGRAM, IN A SANDBOX (cutbox-rows.mjs): the forced cells as the released guide's own fill.sh prints them over the translation 70035ec44b83e469… (all of the seat's roots in one cut). By AI agents, Wed Nov 11 2026. No macro, syntax, notation, axiom, sorry.
-/
import Derived.Test.YtfafidholldjlaaDoorChecked
import GoSem.Claim
import GoSem.ClaimJoined
import GoSem.ClaimMapViews
import Derived.JoinedTies
import Derived.KernelRfl
namespace Go.Proofs.YtfafidholldjlaaDoor
/- THE CELL 'sum', in the pinned program and in every row, IS THE sha256 OF THE DUMP (.gsa) THAT YtfafidholldjlaaDoorProg.lean LOADS. Nothing in Lean hashes anything: it is a label: what it is worth is what the hold of that sum in a sandbox is worth. -/
noncomputable def Tryd.pinned : Pinned := { name := "ytfafidholldjlaadoor", sum := "70035ec44b83e469f171e193812f28f68b1cc9e012ce8a3a6e30a78d5209f9de", checked := Tryd.checked }
namespace Rows
def none {H : Type} : Left H := { results := [], args := [] }

/- WHAT THE LISTED PACKAGE-LEVEL VARIABLES READ AS WHEN THE CALL BEGINS. Each datum BY PROGRAM (the guide's laid-datum.mjs) off the statement by which the dump's own 'gosem.cut.vars' lays the variable. In a bare row this is a premise. The card (YtfafidholldjlaaDoorCards.lean) ties it to the program's text. -/
def laid_sigillary_sigillaryref01_k {H : Type} : DataW H := .agg [.lit (.int .i64 1116352408), .lit (.int .i64 1899447441), .lit (.int .i64 3049323471), .lit (.int .i64 3921009573), .lit (.int .i64 961987163), .lit (.int .i64 1508970993), .lit (.int .i64 2453635748), .lit (.int .i64 2870763221), .lit (.int .i64 3624381080), .lit (.int .i64 310598401), .lit (.int .i64 607225278), .lit (.int .i64 1426881987), .lit (.int .i64 1925078388), .lit (.int .i64 2162078206), .lit (.int .i64 2614888103), .lit (.int .i64 3248222580), .lit (.int .i64 3835390401), .lit (.int .i64 4022224774), .lit (.int .i64 264347078), .lit (.int .i64 604807628), .lit (.int .i64 770255983), .lit (.int .i64 1249150122), .lit (.int .i64 1555081692), .lit (.int .i64 1996064986), .lit (.int .i64 2554220882), .lit (.int .i64 2821834349), .lit (.int .i64 2952996808), .lit (.int .i64 3210313671), .lit (.int .i64 3336571891), .lit (.int .i64 3584528711), .lit (.int .i64 113926993), .lit (.int .i64 338241895), .lit (.int .i64 666307205), .lit (.int .i64 773529912), .lit (.int .i64 1294757372), .lit (.int .i64 1396182291), .lit (.int .i64 1695183700), .lit (.int .i64 1986661051), .lit (.int .i64 2177026350), .lit (.int .i64 2456956037), .lit (.int .i64 2730485921), .lit (.int .i64 2820302411), .lit (.int .i64 3259730800), .lit (.int .i64 3345764771), .lit (.int .i64 3516065817), .lit (.int .i64 3600352804), .lit (.int .i64 4094571909), .lit (.int .i64 275423344), .lit (.int .i64 430227734), .lit (.int .i64 506948616), .lit (.int .i64 659060556), .lit (.int .i64 883997877), .lit (.int .i64 958139571), .lit (.int .i64 1322822218), .lit (.int .i64 1537002063), .lit (.int .i64 1747873779), .lit (.int .i64 1955562222), .lit (.int .i64 2024104815), .lit (.int .i64 2227730452), .lit (.int .i64 2361852424), .lit (.int .i64 2428436474), .lit (.int .i64 2756734187), .lit (.int .i64 3204031479), .lit (.int .i64 3329325298)]
def laid_sigillary_rounds_errBlock {H : Type} : DataW H := .iface "*errors.errorString" (.ptr (.agg [.lit (.string [110, 111, 32, 98, 108, 111, 99, 107])]))
def laid_sigillary_rounds_errWord {H : Type} : DataW H := .iface "*errors.errorString" (.ptr (.agg [.lit (.string [110, 111, 32, 119, 111, 114, 100])]))
def laid_sigillary_rounds_constants {H : Type} : DataW H := .agg [.lit (.int .u32 1116352408), .lit (.int .u32 1899447441), .lit (.int .u32 3049323471), .lit (.int .u32 3921009573), .lit (.int .u32 961987163), .lit (.int .u32 1508970993), .lit (.int .u32 2453635748), .lit (.int .u32 2870763221), .lit (.int .u32 3624381080), .lit (.int .u32 310598401), .lit (.int .u32 607225278), .lit (.int .u32 1426881987), .lit (.int .u32 1925078388), .lit (.int .u32 2162078206), .lit (.int .u32 2614888103), .lit (.int .u32 3248222580), .lit (.int .u32 3835390401), .lit (.int .u32 4022224774), .lit (.int .u32 264347078), .lit (.int .u32 604807628), .lit (.int .u32 770255983), .lit (.int .u32 1249150122), .lit (.int .u32 1555081692), .lit (.int .u32 1996064986), .lit (.int .u32 2554220882), .lit (.int .u32 2821834349), .lit (.int .u32 2952996808), .lit (.int .u32 3210313671), .lit (.int .u32 3336571891), .lit (.int .u32 3584528711), .lit (.int .u32 113926993), .lit (.int .u32 338241895), .lit (.int .u32 666307205), .lit (.int .u32 773529912), .lit (.int .u32 1294757372), .lit (.int .u32 1396182291), .lit (.int .u32 1695183700), .lit (.int .u32 1986661051), .lit (.int .u32 2177026350), .lit (.int .u32 2456956037), .lit (.int .u32 2730485921), .lit (.int .u32 2820302411), .lit (.int .u32 3259730800), .lit (.int .u32 3345764771), .lit (.int .u32 3516065817), .lit (.int .u32 3600352804), .lit (.int .u32 4094571909), .lit (.int .u32 275423344), .lit (.int .u32 430227734), .lit (.int .u32 506948616), .lit (.int .u32 659060556), .lit (.int .u32 883997877), .lit (.int .u32 958139571), .lit (.int .u32 1322822218), .lit (.int .u32 1537002063), .lit (.int .u32 1747873779), .lit (.int .u32 1955562222), .lit (.int .u32 2024104815), .lit (.int .u32 2227730452), .lit (.int .u32 2361852424), .lit (.int .u32 2428436474), .lit (.int .u32 2756734187), .lit (.int .u32 3204031479), .lit (.int .u32 3329325298)]
def laid_errors_errorType {H : Type} : DataW H := .iface "internal/reflectlite.rtype" (.agg [.ptr (.lit (.string [101, 114, 114, 111, 114]))])

/-- 'sigillarylaw01.RoundsTells': WHATEVER THE INPUT: true; the input reads as it did. -/
def roundsTellsSpec : ChangeSpec := { name := "roundsTells", fn := fun _ => fun
  | [d1, d2, d3, d4] => { results := [.lit (.bool true)], args := [d1, d2, d3, d4] }
  | _ => none }
def roundsTellsRow : OpenClaim := { program := "ytfafidholldjlaadoor", sum := "70035ec44b83e469f171e193812f28f68b1cc9e012ce8a3a6e30a78d5209f9de", func := "sigillary/sigillarylaw01.RoundsTells", spec := "roundsTells", inPlace := ["internal/reflectlite.TypeOf"], unfollowed := true, recurses := true, named := ["sigillary/rounds.errWord", "sigillary/rounds.errBlock", "sigillary/rounds.constants", "sigillary/sigillaryref01.k"], apart := false, laid := [("sigillary/sigillaryref01.k", laid_sigillary_sigillaryref01_k), ("sigillary/rounds.errBlock", laid_sigillary_rounds_errBlock), ("sigillary/rounds.errWord", laid_sigillary_rounds_errWord), ("sigillary/rounds.constants", laid_sigillary_rounds_constants)] }
def RoundsTellsSaid : Prop := roundsTellsRow.holds Tryd.pinned (OpenSpec.ofChange roundsTellsSpec)

/-- ITS FALSE NEIGHBOUR: 'it returns false'. Refute it at one input. -/
def roundsTellsWrong : ChangeSpec := { name := "roundsTells", fn := fun _ => fun
  | [d1, d2, d3, d4] => { results := [.lit (.bool false)], args := [d1, d2, d3, d4] }
  | _ => none }
def RoundsTellsWrongFalsely : Prop := roundsTellsRow.holds Tryd.pinned (OpenSpec.ofChange roundsTellsWrong)

/-- 'sigillarylaw01.RoundsParts': WHATEVER THE INPUT: true; the input reads as it did. -/
def roundsPartsSpec : ChangeSpec := { name := "roundsParts", fn := fun _ => fun
  | [d1, d2] => { results := [.lit (.bool true)], args := [d1, d2] }
  | _ => none }
def roundsPartsRow : OpenClaim := { program := "ytfafidholldjlaadoor", sum := "70035ec44b83e469f171e193812f28f68b1cc9e012ce8a3a6e30a78d5209f9de", func := "sigillary/sigillarylaw01.RoundsParts", spec := "roundsParts", inPlace := ["internal/reflectlite.TypeOf"], unfollowed := true, recurses := true, named := ["sigillary/rounds.errWord", "sigillary/rounds.errBlock", "sigillary/rounds.constants"], apart := false, laid := [("sigillary/rounds.errBlock", laid_sigillary_rounds_errBlock), ("sigillary/rounds.errWord", laid_sigillary_rounds_errWord), ("sigillary/rounds.constants", laid_sigillary_rounds_constants)] }
def RoundsPartsSaid : Prop := roundsPartsRow.holds Tryd.pinned (OpenSpec.ofChange roundsPartsSpec)

/-- ITS FALSE NEIGHBOUR: 'it returns false'. Refute it at one input. -/
def roundsPartsWrong : ChangeSpec := { name := "roundsParts", fn := fun _ => fun
  | [d1, d2] => { results := [.lit (.bool false)], args := [d1, d2] }
  | _ => none }
def RoundsPartsWrongFalsely : Prop := roundsPartsRow.holds Tryd.pinned (OpenSpec.ofChange roundsPartsWrong)

/-- 'sigillarylaw01.RoundsWords': WHATEVER THE INPUT: true; the input reads as it did. -/
def roundsWordsSpec : ChangeSpec := { name := "roundsWords", fn := fun _ => fun
  | [d1, d2, d3] => { results := [.lit (.bool true)], args := [d1, d2, d3] }
  | _ => none }
def roundsWordsRow : OpenClaim := { program := "ytfafidholldjlaadoor", sum := "70035ec44b83e469f171e193812f28f68b1cc9e012ce8a3a6e30a78d5209f9de", func := "sigillary/sigillarylaw01.RoundsWords", spec := "roundsWords", inPlace := ["internal/reflectlite.TypeOf"], unfollowed := true, recurses := true, named := ["sigillary/rounds.errWord", "sigillary/rounds.errBlock", "sigillary/rounds.constants"], apart := false, laid := [("sigillary/rounds.errBlock", laid_sigillary_rounds_errBlock), ("sigillary/rounds.errWord", laid_sigillary_rounds_errWord), ("sigillary/rounds.constants", laid_sigillary_rounds_constants)] }
def RoundsWordsSaid : Prop := roundsWordsRow.holds Tryd.pinned (OpenSpec.ofChange roundsWordsSpec)

/-- ITS FALSE NEIGHBOUR: 'it returns false'. Refute it at one input. -/
def roundsWordsWrong : ChangeSpec := { name := "roundsWords", fn := fun _ => fun
  | [d1, d2, d3] => { results := [.lit (.bool false)], args := [d1, d2, d3] }
  | _ => none }
def RoundsWordsWrongFalsely : Prop := roundsWordsRow.holds Tryd.pinned (OpenSpec.ofChange roundsWordsWrong)

/-- 'sigillarylaw01.RoundsBack': WHATEVER THE INPUT: true; the input reads as it did. -/
def roundsBackSpec : ChangeSpec := { name := "roundsBack", fn := fun _ => fun
  | [d1, d2, d3] => { results := [.lit (.bool true)], args := [d1, d2, d3] }
  | _ => none }
def roundsBackRow : OpenClaim := { program := "ytfafidholldjlaadoor", sum := "70035ec44b83e469f171e193812f28f68b1cc9e012ce8a3a6e30a78d5209f9de", func := "sigillary/sigillarylaw01.RoundsBack", spec := "roundsBack", inPlace := ["internal/reflectlite.TypeOf"], unfollowed := true, recurses := true, named := ["sigillary/rounds.errWord", "sigillary/rounds.errBlock", "sigillary/rounds.constants"], apart := false, laid := [("sigillary/rounds.errBlock", laid_sigillary_rounds_errBlock), ("sigillary/rounds.errWord", laid_sigillary_rounds_errWord), ("sigillary/rounds.constants", laid_sigillary_rounds_constants)] }
def RoundsBackSaid : Prop := roundsBackRow.holds Tryd.pinned (OpenSpec.ofChange roundsBackSpec)

/-- ITS FALSE NEIGHBOUR: 'it returns false'. Refute it at one input. -/
def roundsBackWrong : ChangeSpec := { name := "roundsBack", fn := fun _ => fun
  | [d1, d2, d3] => { results := [.lit (.bool false)], args := [d1, d2, d3] }
  | _ => none }
def RoundsBackWrongFalsely : Prop := roundsBackRow.holds Tryd.pinned (OpenSpec.ofChange roundsBackWrong)

/-- 'sigillarylaw01.RoundsWhole': WHATEVER THE INPUT: true; the input reads as it did. -/
def roundsWholeSpec : ChangeSpec := { name := "roundsWhole", fn := fun _ => fun
  | [d] => { results := [.lit (.bool true)], args := [d] }
  | _ => none }
def roundsWholeRow : OpenClaim := { program := "ytfafidholldjlaadoor", sum := "70035ec44b83e469f171e193812f28f68b1cc9e012ce8a3a6e30a78d5209f9de", func := "sigillary/sigillarylaw01.RoundsWhole", spec := "roundsWhole", inPlace := ["internal/reflectlite.TypeOf"], unfollowed := true, recurses := true, named := ["sigillary/rounds.errWord", "sigillary/rounds.errBlock", "sigillary/rounds.constants"], apart := false, laid := [("sigillary/rounds.errBlock", laid_sigillary_rounds_errBlock), ("sigillary/rounds.errWord", laid_sigillary_rounds_errWord), ("sigillary/rounds.constants", laid_sigillary_rounds_constants)] }
def RoundsWholeSaid : Prop := roundsWholeRow.holds Tryd.pinned (OpenSpec.ofChange roundsWholeSpec)

/-- ITS FALSE NEIGHBOUR: 'it returns false'. Refute it at one input. -/
def roundsWholeWrong : ChangeSpec := { name := "roundsWhole", fn := fun _ => fun
  | [d] => { results := [.lit (.bool false)], args := [d] }
  | _ => none }
def RoundsWholeWrongFalsely : Prop := roundsWholeRow.holds Tryd.pinned (OpenSpec.ofChange roundsWholeWrong)

/-- 'sigillarylaw01.RoundsApart': WHATEVER THE INPUT: true; the input reads as it did. -/
def roundsApartSpec : ChangeSpec := { name := "roundsApart", fn := fun _ => fun
  | [d1, d2] => { results := [.lit (.bool true)], args := [d1, d2] }
  | _ => none }
def roundsApartRow : OpenClaim := { program := "ytfafidholldjlaadoor", sum := "70035ec44b83e469f171e193812f28f68b1cc9e012ce8a3a6e30a78d5209f9de", func := "sigillary/sigillarylaw01.RoundsApart", spec := "roundsApart", inPlace := ["internal/reflectlite.TypeOf"], unfollowed := true, recurses := true, named := ["sigillary/rounds.errWord", "sigillary/rounds.errBlock", "sigillary/rounds.constants"], apart := false, laid := [("sigillary/rounds.errBlock", laid_sigillary_rounds_errBlock), ("sigillary/rounds.errWord", laid_sigillary_rounds_errWord), ("sigillary/rounds.constants", laid_sigillary_rounds_constants)] }
def RoundsApartSaid : Prop := roundsApartRow.holds Tryd.pinned (OpenSpec.ofChange roundsApartSpec)

/-- ITS FALSE NEIGHBOUR: 'it returns false'. Refute it at one input. -/
def roundsApartWrong : ChangeSpec := { name := "roundsApart", fn := fun _ => fun
  | [d1, d2] => { results := [.lit (.bool false)], args := [d1, d2] }
  | _ => none }
def RoundsApartWrongFalsely : Prop := roundsApartRow.holds Tryd.pinned (OpenSpec.ofChange roundsApartWrong)

/-- 'sigillarylaw02.DigestTells': WHATEVER THE INPUT: true; the input reads as it did. -/
def digestTellsSpec : ChangeSpec := { name := "digestTells", fn := fun _ => fun
  | [d1, d2] => { results := [.lit (.bool true)], args := [d1, d2] }
  | _ => none }
def digestTellsRow : OpenClaim := { program := "ytfafidholldjlaadoor", sum := "70035ec44b83e469f171e193812f28f68b1cc9e012ce8a3a6e30a78d5209f9de", func := "sigillary/sigillarylaw02.DigestTells", spec := "digestTells", inPlace := ["internal/reflectlite.ValueOf", "(internal/reflectlite.Value).Type", "(internal/reflectlite.Value).IsNil", "internal/reflectlite.TypeOf", "(internal/reflectlite.Value).Elem", "(internal/reflectlite.Value).Set"], unfollowed := true, recurses := true, named := ["errors.errorType", "sigillary/rounds.errWord", "sigillary/rounds.errBlock", "sigillary/rounds.constants", "sigillary/sigillaryref01.k"], apart := false, laid := [("sigillary/sigillaryref01.k", laid_sigillary_sigillaryref01_k), ("errors.errorType", laid_errors_errorType), ("sigillary/rounds.errBlock", laid_sigillary_rounds_errBlock), ("sigillary/rounds.errWord", laid_sigillary_rounds_errWord), ("sigillary/rounds.constants", laid_sigillary_rounds_constants)] }
def DigestTellsSaid : Prop := digestTellsRow.holds Tryd.pinned (OpenSpec.ofChange digestTellsSpec)

/-- ITS FALSE NEIGHBOUR: 'it returns false'. Refute it at one input. -/
def digestTellsWrong : ChangeSpec := { name := "digestTells", fn := fun _ => fun
  | [d1, d2] => { results := [.lit (.bool false)], args := [d1, d2] }
  | _ => none }
def DigestTellsWrongFalsely : Prop := digestTellsRow.holds Tryd.pinned (OpenSpec.ofChange digestTellsWrong)

/-- 'sigillarylaw02.DigestPieces': WHATEVER THE INPUT: true; the input reads as it did. -/
def digestPiecesSpec : ChangeSpec := { name := "digestPieces", fn := fun _ => fun
  | [d1, d2] => { results := [.lit (.bool true)], args := [d1, d2] }
  | _ => none }
def digestPiecesRow : OpenClaim := { program := "ytfafidholldjlaadoor", sum := "70035ec44b83e469f171e193812f28f68b1cc9e012ce8a3a6e30a78d5209f9de", func := "sigillary/sigillarylaw02.DigestPieces", spec := "digestPieces", inPlace := ["internal/reflectlite.ValueOf", "(internal/reflectlite.Value).Type", "(internal/reflectlite.Value).IsNil", "internal/reflectlite.TypeOf", "(internal/reflectlite.Value).Elem", "(internal/reflectlite.Value).Set"], unfollowed := true, recurses := true, named := ["errors.errorType", "sigillary/rounds.errWord", "sigillary/rounds.errBlock", "sigillary/rounds.constants"], apart := false, laid := [("errors.errorType", laid_errors_errorType), ("sigillary/rounds.errBlock", laid_sigillary_rounds_errBlock), ("sigillary/rounds.errWord", laid_sigillary_rounds_errWord), ("sigillary/rounds.constants", laid_sigillary_rounds_constants)] }
def DigestPiecesSaid : Prop := digestPiecesRow.holds Tryd.pinned (OpenSpec.ofChange digestPiecesSpec)

/-- ITS FALSE NEIGHBOUR: 'it returns false'. Refute it at one input. -/
def digestPiecesWrong : ChangeSpec := { name := "digestPieces", fn := fun _ => fun
  | [d1, d2] => { results := [.lit (.bool false)], args := [d1, d2] }
  | _ => none }
def DigestPiecesWrongFalsely : Prop := digestPiecesRow.holds Tryd.pinned (OpenSpec.ofChange digestPiecesWrong)

/-- 'sigillarylaw02.DigestBlocks': WHATEVER THE INPUT: true; the input reads as it did. -/
def digestBlocksSpec : ChangeSpec := { name := "digestBlocks", fn := fun _ => fun
  | [d] => { results := [.lit (.bool true)], args := [d] }
  | _ => none }
def digestBlocksRow : OpenClaim := { program := "ytfafidholldjlaadoor", sum := "70035ec44b83e469f171e193812f28f68b1cc9e012ce8a3a6e30a78d5209f9de", func := "sigillary/sigillarylaw02.DigestBlocks", spec := "digestBlocks", inPlace := ["internal/reflectlite.ValueOf", "(internal/reflectlite.Value).Type", "(internal/reflectlite.Value).IsNil", "internal/reflectlite.TypeOf", "(internal/reflectlite.Value).Elem", "(internal/reflectlite.Value).Set"], unfollowed := true, recurses := true, named := ["errors.errorType", "sigillary/rounds.errWord", "sigillary/rounds.errBlock", "sigillary/rounds.constants"], apart := false, laid := [("errors.errorType", laid_errors_errorType), ("sigillary/rounds.errBlock", laid_sigillary_rounds_errBlock), ("sigillary/rounds.errWord", laid_sigillary_rounds_errWord), ("sigillary/rounds.constants", laid_sigillary_rounds_constants)] }
def DigestBlocksSaid : Prop := digestBlocksRow.holds Tryd.pinned (OpenSpec.ofChange digestBlocksSpec)

/-- ITS FALSE NEIGHBOUR: 'it returns false'. Refute it at one input. -/
def digestBlocksWrong : ChangeSpec := { name := "digestBlocks", fn := fun _ => fun
  | [d] => { results := [.lit (.bool false)], args := [d] }
  | _ => none }
def DigestBlocksWrongFalsely : Prop := digestBlocksRow.holds Tryd.pinned (OpenSpec.ofChange digestBlocksWrong)

/-- 'sigillarylaw02.DigestEnds': WHATEVER THE INPUT: true; the input reads as it did. -/
def digestEndsSpec : ChangeSpec := { name := "digestEnds", fn := fun _ => fun
  | [d1, d2] => { results := [.lit (.bool true)], args := [d1, d2] }
  | _ => none }
def digestEndsRow : OpenClaim := { program := "ytfafidholldjlaadoor", sum := "70035ec44b83e469f171e193812f28f68b1cc9e012ce8a3a6e30a78d5209f9de", func := "sigillary/sigillarylaw02.DigestEnds", spec := "digestEnds", inPlace := ["internal/reflectlite.ValueOf", "(internal/reflectlite.Value).Type", "(internal/reflectlite.Value).IsNil", "internal/reflectlite.TypeOf", "(internal/reflectlite.Value).Elem", "(internal/reflectlite.Value).Set"], unfollowed := true, recurses := true, named := ["errors.errorType", "sigillary/rounds.errWord", "sigillary/rounds.errBlock", "sigillary/rounds.constants"], apart := false, laid := [("errors.errorType", laid_errors_errorType), ("sigillary/rounds.errBlock", laid_sigillary_rounds_errBlock), ("sigillary/rounds.errWord", laid_sigillary_rounds_errWord), ("sigillary/rounds.constants", laid_sigillary_rounds_constants)] }
def DigestEndsSaid : Prop := digestEndsRow.holds Tryd.pinned (OpenSpec.ofChange digestEndsSpec)

/-- ITS FALSE NEIGHBOUR: 'it returns false'. Refute it at one input. -/
def digestEndsWrong : ChangeSpec := { name := "digestEnds", fn := fun _ => fun
  | [d1, d2] => { results := [.lit (.bool false)], args := [d1, d2] }
  | _ => none }
def DigestEndsWrongFalsely : Prop := digestEndsRow.holds Tryd.pinned (OpenSpec.ofChange digestEndsWrong)

/-- 'sigillarylaw02.DigestTwo': WHATEVER THE INPUT: true; the input reads as it did. -/
def digestTwoSpec : ChangeSpec := { name := "digestTwo", fn := fun _ => fun
  | [d1, d2, d3, d4] => { results := [.lit (.bool true)], args := [d1, d2, d3, d4] }
  | _ => none }
def digestTwoRow : OpenClaim := { program := "ytfafidholldjlaadoor", sum := "70035ec44b83e469f171e193812f28f68b1cc9e012ce8a3a6e30a78d5209f9de", func := "sigillary/sigillarylaw02.DigestTwo", spec := "digestTwo", inPlace := ["internal/reflectlite.ValueOf", "(internal/reflectlite.Value).Type", "(internal/reflectlite.Value).IsNil", "internal/reflectlite.TypeOf", "(internal/reflectlite.Value).Elem", "(internal/reflectlite.Value).Set"], unfollowed := true, recurses := true, named := ["errors.errorType", "sigillary/rounds.errWord", "sigillary/rounds.errBlock", "sigillary/rounds.constants"], apart := false, laid := [("errors.errorType", laid_errors_errorType), ("sigillary/rounds.errBlock", laid_sigillary_rounds_errBlock), ("sigillary/rounds.errWord", laid_sigillary_rounds_errWord), ("sigillary/rounds.constants", laid_sigillary_rounds_constants)] }
def DigestTwoSaid : Prop := digestTwoRow.holds Tryd.pinned (OpenSpec.ofChange digestTwoSpec)

/-- ITS FALSE NEIGHBOUR: 'it returns false'. Refute it at one input. -/
def digestTwoWrong : ChangeSpec := { name := "digestTwo", fn := fun _ => fun
  | [d1, d2, d3, d4] => { results := [.lit (.bool false)], args := [d1, d2, d3, d4] }
  | _ => none }
def DigestTwoWrongFalsely : Prop := digestTwoRow.holds Tryd.pinned (OpenSpec.ofChange digestTwoWrong)

/-- 'sigillarylaw02.DigestPlays': WHATEVER THE INPUT: true; the input reads as it did. -/
def digestPlaysSpec : ChangeSpec := { name := "digestPlays", fn := fun _ => fun
  | [d] => { results := [.lit (.bool true)], args := [d] }
  | _ => none }
def digestPlaysRow : OpenClaim := { program := "ytfafidholldjlaadoor", sum := "70035ec44b83e469f171e193812f28f68b1cc9e012ce8a3a6e30a78d5209f9de", func := "sigillary/sigillarylaw02.DigestPlays", spec := "digestPlays", inPlace := ["internal/reflectlite.ValueOf", "(internal/reflectlite.Value).Type", "(internal/reflectlite.Value).IsNil", "internal/reflectlite.TypeOf", "(internal/reflectlite.Value).Elem", "(internal/reflectlite.Value).Set"], unfollowed := true, recurses := true, named := ["errors.errorType", "sigillary/rounds.errWord", "sigillary/rounds.errBlock", "sigillary/rounds.constants", "sigillary/sigillaryref01.k"], apart := false, laid := [("sigillary/sigillaryref01.k", laid_sigillary_sigillaryref01_k), ("errors.errorType", laid_errors_errorType), ("sigillary/rounds.errBlock", laid_sigillary_rounds_errBlock), ("sigillary/rounds.errWord", laid_sigillary_rounds_errWord), ("sigillary/rounds.constants", laid_sigillary_rounds_constants)] }
def DigestPlaysSaid : Prop := digestPlaysRow.holds Tryd.pinned (OpenSpec.ofChange digestPlaysSpec)

/-- ITS FALSE NEIGHBOUR: 'it returns false'. Refute it at one input. -/
def digestPlaysWrong : ChangeSpec := { name := "digestPlays", fn := fun _ => fun
  | [d] => { results := [.lit (.bool false)], args := [d] }
  | _ => none }
def DigestPlaysWrongFalsely : Prop := digestPlaysRow.holds Tryd.pinned (OpenSpec.ofChange digestPlaysWrong)

/-- 'sigillarylaw02.DigestResets': WHATEVER THE INPUT: true; the input reads as it did. -/
def digestResetsSpec : ChangeSpec := { name := "digestResets", fn := fun _ => fun
  | [d1, d2] => { results := [.lit (.bool true)], args := [d1, d2] }
  | _ => none }
def digestResetsRow : OpenClaim := { program := "ytfafidholldjlaadoor", sum := "70035ec44b83e469f171e193812f28f68b1cc9e012ce8a3a6e30a78d5209f9de", func := "sigillary/sigillarylaw02.DigestResets", spec := "digestResets", inPlace := ["internal/reflectlite.ValueOf", "(internal/reflectlite.Value).Type", "(internal/reflectlite.Value).IsNil", "internal/reflectlite.TypeOf", "(internal/reflectlite.Value).Elem", "(internal/reflectlite.Value).Set"], unfollowed := true, recurses := true, named := ["errors.errorType", "sigillary/rounds.errWord", "sigillary/rounds.errBlock", "sigillary/rounds.constants"], apart := false, laid := [("errors.errorType", laid_errors_errorType), ("sigillary/rounds.errBlock", laid_sigillary_rounds_errBlock), ("sigillary/rounds.errWord", laid_sigillary_rounds_errWord), ("sigillary/rounds.constants", laid_sigillary_rounds_constants)] }
def DigestResetsSaid : Prop := digestResetsRow.holds Tryd.pinned (OpenSpec.ofChange digestResetsSpec)

/-- ITS FALSE NEIGHBOUR: 'it returns false'. Refute it at one input. -/
def digestResetsWrong : ChangeSpec := { name := "digestResets", fn := fun _ => fun
  | [d1, d2] => { results := [.lit (.bool false)], args := [d1, d2] }
  | _ => none }
def DigestResetsWrongFalsely : Prop := digestResetsRow.holds Tryd.pinned (OpenSpec.ofChange digestResetsWrong)

/-- 'sigillarylaw03.TagTells': WHATEVER THE INPUT: true; the input reads as it did. -/
def tagTellsSpec : ChangeSpec := { name := "tagTells", fn := fun _ => fun
  | [d1, d2] => { results := [.lit (.bool true)], args := [d1, d2] }
  | _ => none }
def tagTellsRow : OpenClaim := { program := "ytfafidholldjlaadoor", sum := "70035ec44b83e469f171e193812f28f68b1cc9e012ce8a3a6e30a78d5209f9de", func := "sigillary/sigillarylaw03.TagTells", spec := "tagTells", inPlace := ["internal/reflectlite.ValueOf", "(internal/reflectlite.Value).Type", "(internal/reflectlite.Value).IsNil", "internal/reflectlite.TypeOf", "(internal/reflectlite.Value).Elem", "(internal/reflectlite.Value).Set", "internal/abi.NoEscape", "internal/bytealg.MakeNoZero", "internal/bytealg.IndexByteString", "internal/bytealg.IndexString"], unfollowed := true, recurses := true, named := ["errors.errorType", "sigillary/rounds.errWord", "sigillary/rounds.errBlock", "sigillary/rounds.constants", "sigillary/sigillaryref01.k", "internal/bytealg.MaxLen"], apart := false, laid := [("sigillary/sigillaryref01.k", laid_sigillary_sigillaryref01_k), ("errors.errorType", laid_errors_errorType), ("sigillary/rounds.errBlock", laid_sigillary_rounds_errBlock), ("sigillary/rounds.errWord", laid_sigillary_rounds_errWord), ("sigillary/rounds.constants", laid_sigillary_rounds_constants)] }
def TagTellsSaid : Prop := tagTellsRow.holds Tryd.pinned (OpenSpec.ofChange tagTellsSpec)

/-- ITS FALSE NEIGHBOUR: 'it returns false'. Refute it at one input. -/
def tagTellsWrong : ChangeSpec := { name := "tagTells", fn := fun _ => fun
  | [d1, d2] => { results := [.lit (.bool false)], args := [d1, d2] }
  | _ => none }
def TagTellsWrongFalsely : Prop := tagTellsRow.holds Tryd.pinned (OpenSpec.ofChange tagTellsWrong)

/-- 'sigillarylaw03.TagKeys': WHATEVER THE INPUT: true; the input reads as it did. -/
def tagKeysSpec : ChangeSpec := { name := "tagKeys", fn := fun _ => fun
  | [d1, d2, d3] => { results := [.lit (.bool true)], args := [d1, d2, d3] }
  | _ => none }
def tagKeysRow : OpenClaim := { program := "ytfafidholldjlaadoor", sum := "70035ec44b83e469f171e193812f28f68b1cc9e012ce8a3a6e30a78d5209f9de", func := "sigillary/sigillarylaw03.TagKeys", spec := "tagKeys", inPlace := ["internal/reflectlite.ValueOf", "(internal/reflectlite.Value).Type", "(internal/reflectlite.Value).IsNil", "internal/reflectlite.TypeOf", "(internal/reflectlite.Value).Elem", "(internal/reflectlite.Value).Set", "internal/abi.NoEscape", "internal/bytealg.MakeNoZero", "internal/bytealg.IndexByteString", "internal/bytealg.IndexString"], unfollowed := true, recurses := true, named := ["errors.errorType", "sigillary/rounds.errWord", "sigillary/rounds.errBlock", "sigillary/rounds.constants", "internal/bytealg.MaxLen"], apart := false, laid := [("errors.errorType", laid_errors_errorType), ("sigillary/rounds.errBlock", laid_sigillary_rounds_errBlock), ("sigillary/rounds.errWord", laid_sigillary_rounds_errWord), ("sigillary/rounds.constants", laid_sigillary_rounds_constants)] }
def TagKeysSaid : Prop := tagKeysRow.holds Tryd.pinned (OpenSpec.ofChange tagKeysSpec)

/-- ITS FALSE NEIGHBOUR: 'it returns false'. Refute it at one input. -/
def tagKeysWrong : ChangeSpec := { name := "tagKeys", fn := fun _ => fun
  | [d1, d2, d3] => { results := [.lit (.bool false)], args := [d1, d2, d3] }
  | _ => none }
def TagKeysWrongFalsely : Prop := tagKeysRow.holds Tryd.pinned (OpenSpec.ofChange tagKeysWrong)

/-- 'sigillarylaw03.TagBack': WHATEVER THE INPUT: true; the input reads as it did. -/
def tagBackSpec : ChangeSpec := { name := "tagBack", fn := fun _ => fun
  | [d] => { results := [.lit (.bool true)], args := [d] }
  | _ => none }
def tagBackRow : OpenClaim := { program := "ytfafidholldjlaadoor", sum := "70035ec44b83e469f171e193812f28f68b1cc9e012ce8a3a6e30a78d5209f9de", func := "sigillary/sigillarylaw03.TagBack", spec := "tagBack", inPlace := ["internal/reflectlite.ValueOf", "(internal/reflectlite.Value).Type", "(internal/reflectlite.Value).IsNil", "internal/reflectlite.TypeOf", "(internal/reflectlite.Value).Elem", "(internal/reflectlite.Value).Set", "internal/abi.NoEscape", "internal/bytealg.MakeNoZero", "internal/bytealg.IndexByteString", "internal/bytealg.IndexString"], unfollowed := true, recurses := true, named := ["errors.errorType", "sigillary/rounds.errWord", "sigillary/rounds.errBlock", "sigillary/rounds.constants", "internal/bytealg.MaxLen"], apart := false, laid := [("errors.errorType", laid_errors_errorType), ("sigillary/rounds.errBlock", laid_sigillary_rounds_errBlock), ("sigillary/rounds.errWord", laid_sigillary_rounds_errWord), ("sigillary/rounds.constants", laid_sigillary_rounds_constants)] }
def TagBackSaid : Prop := tagBackRow.holds Tryd.pinned (OpenSpec.ofChange tagBackSpec)

/-- ITS FALSE NEIGHBOUR: 'it returns false'. Refute it at one input. -/
def tagBackWrong : ChangeSpec := { name := "tagBack", fn := fun _ => fun
  | [d] => { results := [.lit (.bool false)], args := [d] }
  | _ => none }
def TagBackWrongFalsely : Prop := tagBackRow.holds Tryd.pinned (OpenSpec.ofChange tagBackWrong)

/-- 'sigillarylaw03.TagEnds': WHATEVER THE INPUT: true; the input reads as it did. -/
def tagEndsSpec : ChangeSpec := { name := "tagEnds", fn := fun _ => fun
  | [d1, d2] => { results := [.lit (.bool true)], args := [d1, d2] }
  | _ => none }
def tagEndsRow : OpenClaim := { program := "ytfafidholldjlaadoor", sum := "70035ec44b83e469f171e193812f28f68b1cc9e012ce8a3a6e30a78d5209f9de", func := "sigillary/sigillarylaw03.TagEnds", spec := "tagEnds", inPlace := ["internal/reflectlite.ValueOf", "(internal/reflectlite.Value).Type", "(internal/reflectlite.Value).IsNil", "internal/reflectlite.TypeOf", "(internal/reflectlite.Value).Elem", "(internal/reflectlite.Value).Set", "internal/abi.NoEscape", "internal/bytealg.MakeNoZero", "internal/bytealg.IndexByteString", "internal/bytealg.IndexString"], unfollowed := true, recurses := true, named := ["errors.errorType", "sigillary/rounds.errWord", "sigillary/rounds.errBlock", "sigillary/rounds.constants", "internal/bytealg.MaxLen"], apart := false, laid := [("errors.errorType", laid_errors_errorType), ("sigillary/rounds.errBlock", laid_sigillary_rounds_errBlock), ("sigillary/rounds.errWord", laid_sigillary_rounds_errWord), ("sigillary/rounds.constants", laid_sigillary_rounds_constants)] }
def TagEndsSaid : Prop := tagEndsRow.holds Tryd.pinned (OpenSpec.ofChange tagEndsSpec)

/-- ITS FALSE NEIGHBOUR: 'it returns false'. Refute it at one input. -/
def tagEndsWrong : ChangeSpec := { name := "tagEnds", fn := fun _ => fun
  | [d1, d2] => { results := [.lit (.bool false)], args := [d1, d2] }
  | _ => none }
def TagEndsWrongFalsely : Prop := tagEndsRow.holds Tryd.pinned (OpenSpec.ofChange tagEndsWrong)

/-- 'sigillarylaw03.TagParts': WHATEVER THE INPUT: true; the input reads as it did. -/
def tagPartsSpec : ChangeSpec := { name := "tagParts", fn := fun _ => fun
  | [d1, d2] => { results := [.lit (.bool true)], args := [d1, d2] }
  | _ => none }
def tagPartsRow : OpenClaim := { program := "ytfafidholldjlaadoor", sum := "70035ec44b83e469f171e193812f28f68b1cc9e012ce8a3a6e30a78d5209f9de", func := "sigillary/sigillarylaw03.TagParts", spec := "tagParts", inPlace := ["internal/reflectlite.ValueOf", "(internal/reflectlite.Value).Type", "(internal/reflectlite.Value).IsNil", "internal/reflectlite.TypeOf", "(internal/reflectlite.Value).Elem", "(internal/reflectlite.Value).Set", "internal/abi.NoEscape", "internal/bytealg.MakeNoZero", "internal/bytealg.IndexByteString", "internal/bytealg.IndexString"], unfollowed := true, recurses := true, named := ["errors.errorType", "sigillary/rounds.errWord", "sigillary/rounds.errBlock", "sigillary/rounds.constants", "internal/bytealg.MaxLen"], apart := false, laid := [("errors.errorType", laid_errors_errorType), ("sigillary/rounds.errBlock", laid_sigillary_rounds_errBlock), ("sigillary/rounds.errWord", laid_sigillary_rounds_errWord), ("sigillary/rounds.constants", laid_sigillary_rounds_constants)] }
def TagPartsSaid : Prop := tagPartsRow.holds Tryd.pinned (OpenSpec.ofChange tagPartsSpec)

/-- ITS FALSE NEIGHBOUR: 'it returns false'. Refute it at one input. -/
def tagPartsWrong : ChangeSpec := { name := "tagParts", fn := fun _ => fun
  | [d1, d2] => { results := [.lit (.bool false)], args := [d1, d2] }
  | _ => none }
def TagPartsWrongFalsely : Prop := tagPartsRow.holds Tryd.pinned (OpenSpec.ofChange tagPartsWrong)

/-- 'sigillarylaw03.TagJoins': WHATEVER THE INPUT: true; the input reads as it did. -/
def tagJoinsSpec : ChangeSpec := { name := "tagJoins", fn := fun _ => fun
  | [d1, d2, d3] => { results := [.lit (.bool true)], args := [d1, d2, d3] }
  | _ => none }
def tagJoinsRow : OpenClaim := { program := "ytfafidholldjlaadoor", sum := "70035ec44b83e469f171e193812f28f68b1cc9e012ce8a3a6e30a78d5209f9de", func := "sigillary/sigillarylaw03.TagJoins", spec := "tagJoins", inPlace := ["internal/reflectlite.ValueOf", "(internal/reflectlite.Value).Type", "(internal/reflectlite.Value).IsNil", "internal/reflectlite.TypeOf", "(internal/reflectlite.Value).Elem", "(internal/reflectlite.Value).Set", "internal/abi.NoEscape", "internal/bytealg.MakeNoZero", "internal/bytealg.IndexByteString", "internal/bytealg.IndexString"], unfollowed := true, recurses := true, named := ["errors.errorType", "sigillary/rounds.errWord", "sigillary/rounds.errBlock", "sigillary/rounds.constants", "internal/bytealg.MaxLen"], apart := false, laid := [("errors.errorType", laid_errors_errorType), ("sigillary/rounds.errBlock", laid_sigillary_rounds_errBlock), ("sigillary/rounds.errWord", laid_sigillary_rounds_errWord), ("sigillary/rounds.constants", laid_sigillary_rounds_constants)] }
def TagJoinsSaid : Prop := tagJoinsRow.holds Tryd.pinned (OpenSpec.ofChange tagJoinsSpec)

/-- ITS FALSE NEIGHBOUR: 'it returns false'. Refute it at one input. -/
def tagJoinsWrong : ChangeSpec := { name := "tagJoins", fn := fun _ => fun
  | [d1, d2, d3] => { results := [.lit (.bool false)], args := [d1, d2, d3] }
  | _ => none }
def TagJoinsWrongFalsely : Prop := tagJoinsRow.holds Tryd.pinned (OpenSpec.ofChange tagJoinsWrong)

/-- 'sigillarylaw03.TagEqual': WHATEVER THE INPUT: true; the input reads as it did. -/
def tagEqualSpec : ChangeSpec := { name := "tagEqual", fn := fun _ => fun
  | [d1, d2, d3] => { results := [.lit (.bool true)], args := [d1, d2, d3] }
  | _ => none }
def tagEqualRow : OpenClaim := { program := "ytfafidholldjlaadoor", sum := "70035ec44b83e469f171e193812f28f68b1cc9e012ce8a3a6e30a78d5209f9de", func := "sigillary/sigillarylaw03.TagEqual", spec := "tagEqual", inPlace := ["internal/reflectlite.ValueOf", "(internal/reflectlite.Value).Type", "(internal/reflectlite.Value).IsNil", "internal/reflectlite.TypeOf", "(internal/reflectlite.Value).Elem", "(internal/reflectlite.Value).Set", "internal/abi.NoEscape", "internal/bytealg.MakeNoZero", "internal/bytealg.IndexByteString", "internal/bytealg.IndexString"], unfollowed := true, recurses := true, named := ["errors.errorType", "sigillary/rounds.errWord", "sigillary/rounds.errBlock", "sigillary/rounds.constants", "internal/bytealg.MaxLen"], apart := false, laid := [("errors.errorType", laid_errors_errorType), ("sigillary/rounds.errBlock", laid_sigillary_rounds_errBlock), ("sigillary/rounds.errWord", laid_sigillary_rounds_errWord), ("sigillary/rounds.constants", laid_sigillary_rounds_constants)] }
def TagEqualSaid : Prop := tagEqualRow.holds Tryd.pinned (OpenSpec.ofChange tagEqualSpec)

/-- ITS FALSE NEIGHBOUR: 'it returns false'. Refute it at one input. -/
def tagEqualWrong : ChangeSpec := { name := "tagEqual", fn := fun _ => fun
  | [d1, d2, d3] => { results := [.lit (.bool false)], args := [d1, d2, d3] }
  | _ => none }
def TagEqualWrongFalsely : Prop := tagEqualRow.holds Tryd.pinned (OpenSpec.ofChange tagEqualWrong)

/- THE SECOND FORM. 'bulk': how many values and letters a reading holds, each counted each time it is reached (what is shared counts as often as it is met; a slice's spare places count too). A statement '..UptoSaid' is the law's where the arguments, and the package variables that the reading takes, are together of bulk at most 1048576: NARROWER than '..Said'. Prove '..Said' where nothing that the law and all that it calls make is longer than what came in: it says more and counts as full. Else prove '..UptoSaid'. A law counts once. -/
mutual
def uptoBulk {H : Type} : DataW H → Nat
  | .lit (.string bytes) => bytes.length + 1
  | .lit _ => 1
  | .nil => 1
  | .ptr d => uptoBulk d + 1
  | .slice elems spare => uptoBulkAll elems + uptoBulkAll spare + 1
  | .agg parts => uptoBulkAll parts + 1
  | .iface _ d => uptoBulk d + 1
  | .map entries => uptoBulkEntries entries + 1
  | .held _ => 1
def uptoBulkAll {H : Type} : List (DataW H) → Nat
  | [] => 0
  | d :: r => uptoBulk d + uptoBulkAll r
def uptoBulkEntries {H : Type} : List (Lit × DataW H) → Nat
  | [] => 0
  | x :: r => uptoBulkEntry x + uptoBulkEntries r
def uptoBulkEntry {H : Type} : Lit × DataW H → Nat
  | (.string bytes, d) => bytes.length + uptoBulk d + 1
  | (_, d) => uptoBulk d + 1
 end
def uptoSmall : (H : Type) → List (DataW H) → Bool := fun _ ds => decide (uptoBulkAll ds ≤ 1048576)
def OpenSpec.upto (s : _root_.Go.ChangeSpec) : _root_.Go.OpenSpec := { _root_.Go.OpenSpec.ofChange s with cond := some uptoSmall }

/-- 'sigillarylaw01.RoundsTells', WHERE WHAT IT READS IS OF BULK AT MOST 1048576: true; the input reads as it did. -/
def roundsTellsUptoRow : OpenClaim := { program := "ytfafidholldjlaadoor", sum := "70035ec44b83e469f171e193812f28f68b1cc9e012ce8a3a6e30a78d5209f9de", func := "sigillary/sigillarylaw01.RoundsTells", spec := "roundsTells", inPlace := ["internal/reflectlite.TypeOf"], unfollowed := true, recurses := true, named := ["sigillary/rounds.errWord", "sigillary/rounds.errBlock", "sigillary/rounds.constants", "sigillary/sigillaryref01.k"], apart := false, laid := [("sigillary/sigillaryref01.k", laid_sigillary_sigillaryref01_k), ("sigillary/rounds.errBlock", laid_sigillary_rounds_errBlock), ("sigillary/rounds.errWord", laid_sigillary_rounds_errWord), ("sigillary/rounds.constants", laid_sigillary_rounds_constants)], narrowed := true }
def RoundsTellsUptoSaid : Prop := roundsTellsUptoRow.holds Tryd.pinned (OpenSpec.upto roundsTellsSpec)

/-- 'sigillarylaw01.RoundsParts', WHERE WHAT IT READS IS OF BULK AT MOST 1048576: true; the input reads as it did. -/
def roundsPartsUptoRow : OpenClaim := { program := "ytfafidholldjlaadoor", sum := "70035ec44b83e469f171e193812f28f68b1cc9e012ce8a3a6e30a78d5209f9de", func := "sigillary/sigillarylaw01.RoundsParts", spec := "roundsParts", inPlace := ["internal/reflectlite.TypeOf"], unfollowed := true, recurses := true, named := ["sigillary/rounds.errWord", "sigillary/rounds.errBlock", "sigillary/rounds.constants"], apart := false, laid := [("sigillary/rounds.errBlock", laid_sigillary_rounds_errBlock), ("sigillary/rounds.errWord", laid_sigillary_rounds_errWord), ("sigillary/rounds.constants", laid_sigillary_rounds_constants)], narrowed := true }
def RoundsPartsUptoSaid : Prop := roundsPartsUptoRow.holds Tryd.pinned (OpenSpec.upto roundsPartsSpec)

/-- 'sigillarylaw01.RoundsWords', WHERE WHAT IT READS IS OF BULK AT MOST 1048576: true; the input reads as it did. -/
def roundsWordsUptoRow : OpenClaim := { program := "ytfafidholldjlaadoor", sum := "70035ec44b83e469f171e193812f28f68b1cc9e012ce8a3a6e30a78d5209f9de", func := "sigillary/sigillarylaw01.RoundsWords", spec := "roundsWords", inPlace := ["internal/reflectlite.TypeOf"], unfollowed := true, recurses := true, named := ["sigillary/rounds.errWord", "sigillary/rounds.errBlock", "sigillary/rounds.constants"], apart := false, laid := [("sigillary/rounds.errBlock", laid_sigillary_rounds_errBlock), ("sigillary/rounds.errWord", laid_sigillary_rounds_errWord), ("sigillary/rounds.constants", laid_sigillary_rounds_constants)], narrowed := true }
def RoundsWordsUptoSaid : Prop := roundsWordsUptoRow.holds Tryd.pinned (OpenSpec.upto roundsWordsSpec)

/-- 'sigillarylaw01.RoundsBack', WHERE WHAT IT READS IS OF BULK AT MOST 1048576: true; the input reads as it did. -/
def roundsBackUptoRow : OpenClaim := { program := "ytfafidholldjlaadoor", sum := "70035ec44b83e469f171e193812f28f68b1cc9e012ce8a3a6e30a78d5209f9de", func := "sigillary/sigillarylaw01.RoundsBack", spec := "roundsBack", inPlace := ["internal/reflectlite.TypeOf"], unfollowed := true, recurses := true, named := ["sigillary/rounds.errWord", "sigillary/rounds.errBlock", "sigillary/rounds.constants"], apart := false, laid := [("sigillary/rounds.errBlock", laid_sigillary_rounds_errBlock), ("sigillary/rounds.errWord", laid_sigillary_rounds_errWord), ("sigillary/rounds.constants", laid_sigillary_rounds_constants)], narrowed := true }
def RoundsBackUptoSaid : Prop := roundsBackUptoRow.holds Tryd.pinned (OpenSpec.upto roundsBackSpec)

/-- 'sigillarylaw01.RoundsWhole', WHERE WHAT IT READS IS OF BULK AT MOST 1048576: true; the input reads as it did. -/
def roundsWholeUptoRow : OpenClaim := { program := "ytfafidholldjlaadoor", sum := "70035ec44b83e469f171e193812f28f68b1cc9e012ce8a3a6e30a78d5209f9de", func := "sigillary/sigillarylaw01.RoundsWhole", spec := "roundsWhole", inPlace := ["internal/reflectlite.TypeOf"], unfollowed := true, recurses := true, named := ["sigillary/rounds.errWord", "sigillary/rounds.errBlock", "sigillary/rounds.constants"], apart := false, laid := [("sigillary/rounds.errBlock", laid_sigillary_rounds_errBlock), ("sigillary/rounds.errWord", laid_sigillary_rounds_errWord), ("sigillary/rounds.constants", laid_sigillary_rounds_constants)], narrowed := true }
def RoundsWholeUptoSaid : Prop := roundsWholeUptoRow.holds Tryd.pinned (OpenSpec.upto roundsWholeSpec)

/-- 'sigillarylaw01.RoundsApart', WHERE WHAT IT READS IS OF BULK AT MOST 1048576: true; the input reads as it did. -/
def roundsApartUptoRow : OpenClaim := { program := "ytfafidholldjlaadoor", sum := "70035ec44b83e469f171e193812f28f68b1cc9e012ce8a3a6e30a78d5209f9de", func := "sigillary/sigillarylaw01.RoundsApart", spec := "roundsApart", inPlace := ["internal/reflectlite.TypeOf"], unfollowed := true, recurses := true, named := ["sigillary/rounds.errWord", "sigillary/rounds.errBlock", "sigillary/rounds.constants"], apart := false, laid := [("sigillary/rounds.errBlock", laid_sigillary_rounds_errBlock), ("sigillary/rounds.errWord", laid_sigillary_rounds_errWord), ("sigillary/rounds.constants", laid_sigillary_rounds_constants)], narrowed := true }
def RoundsApartUptoSaid : Prop := roundsApartUptoRow.holds Tryd.pinned (OpenSpec.upto roundsApartSpec)

/-- 'sigillarylaw02.DigestTells', WHERE WHAT IT READS IS OF BULK AT MOST 1048576: true; the input reads as it did. -/
def digestTellsUptoRow : OpenClaim := { program := "ytfafidholldjlaadoor", sum := "70035ec44b83e469f171e193812f28f68b1cc9e012ce8a3a6e30a78d5209f9de", func := "sigillary/sigillarylaw02.DigestTells", spec := "digestTells", inPlace := ["internal/reflectlite.ValueOf", "(internal/reflectlite.Value).Type", "(internal/reflectlite.Value).IsNil", "internal/reflectlite.TypeOf", "(internal/reflectlite.Value).Elem", "(internal/reflectlite.Value).Set"], unfollowed := true, recurses := true, named := ["errors.errorType", "sigillary/rounds.errWord", "sigillary/rounds.errBlock", "sigillary/rounds.constants", "sigillary/sigillaryref01.k"], apart := false, laid := [("sigillary/sigillaryref01.k", laid_sigillary_sigillaryref01_k), ("errors.errorType", laid_errors_errorType), ("sigillary/rounds.errBlock", laid_sigillary_rounds_errBlock), ("sigillary/rounds.errWord", laid_sigillary_rounds_errWord), ("sigillary/rounds.constants", laid_sigillary_rounds_constants)], narrowed := true }
def DigestTellsUptoSaid : Prop := digestTellsUptoRow.holds Tryd.pinned (OpenSpec.upto digestTellsSpec)

/-- 'sigillarylaw02.DigestPieces', WHERE WHAT IT READS IS OF BULK AT MOST 1048576: true; the input reads as it did. -/
def digestPiecesUptoRow : OpenClaim := { program := "ytfafidholldjlaadoor", sum := "70035ec44b83e469f171e193812f28f68b1cc9e012ce8a3a6e30a78d5209f9de", func := "sigillary/sigillarylaw02.DigestPieces", spec := "digestPieces", inPlace := ["internal/reflectlite.ValueOf", "(internal/reflectlite.Value).Type", "(internal/reflectlite.Value).IsNil", "internal/reflectlite.TypeOf", "(internal/reflectlite.Value).Elem", "(internal/reflectlite.Value).Set"], unfollowed := true, recurses := true, named := ["errors.errorType", "sigillary/rounds.errWord", "sigillary/rounds.errBlock", "sigillary/rounds.constants"], apart := false, laid := [("errors.errorType", laid_errors_errorType), ("sigillary/rounds.errBlock", laid_sigillary_rounds_errBlock), ("sigillary/rounds.errWord", laid_sigillary_rounds_errWord), ("sigillary/rounds.constants", laid_sigillary_rounds_constants)], narrowed := true }
def DigestPiecesUptoSaid : Prop := digestPiecesUptoRow.holds Tryd.pinned (OpenSpec.upto digestPiecesSpec)

/-- 'sigillarylaw02.DigestBlocks', WHERE WHAT IT READS IS OF BULK AT MOST 1048576: true; the input reads as it did. -/
def digestBlocksUptoRow : OpenClaim := { program := "ytfafidholldjlaadoor", sum := "70035ec44b83e469f171e193812f28f68b1cc9e012ce8a3a6e30a78d5209f9de", func := "sigillary/sigillarylaw02.DigestBlocks", spec := "digestBlocks", inPlace := ["internal/reflectlite.ValueOf", "(internal/reflectlite.Value).Type", "(internal/reflectlite.Value).IsNil", "internal/reflectlite.TypeOf", "(internal/reflectlite.Value).Elem", "(internal/reflectlite.Value).Set"], unfollowed := true, recurses := true, named := ["errors.errorType", "sigillary/rounds.errWord", "sigillary/rounds.errBlock", "sigillary/rounds.constants"], apart := false, laid := [("errors.errorType", laid_errors_errorType), ("sigillary/rounds.errBlock", laid_sigillary_rounds_errBlock), ("sigillary/rounds.errWord", laid_sigillary_rounds_errWord), ("sigillary/rounds.constants", laid_sigillary_rounds_constants)], narrowed := true }
def DigestBlocksUptoSaid : Prop := digestBlocksUptoRow.holds Tryd.pinned (OpenSpec.upto digestBlocksSpec)

/-- 'sigillarylaw02.DigestEnds', WHERE WHAT IT READS IS OF BULK AT MOST 1048576: true; the input reads as it did. -/
def digestEndsUptoRow : OpenClaim := { program := "ytfafidholldjlaadoor", sum := "70035ec44b83e469f171e193812f28f68b1cc9e012ce8a3a6e30a78d5209f9de", func := "sigillary/sigillarylaw02.DigestEnds", spec := "digestEnds", inPlace := ["internal/reflectlite.ValueOf", "(internal/reflectlite.Value).Type", "(internal/reflectlite.Value).IsNil", "internal/reflectlite.TypeOf", "(internal/reflectlite.Value).Elem", "(internal/reflectlite.Value).Set"], unfollowed := true, recurses := true, named := ["errors.errorType", "sigillary/rounds.errWord", "sigillary/rounds.errBlock", "sigillary/rounds.constants"], apart := false, laid := [("errors.errorType", laid_errors_errorType), ("sigillary/rounds.errBlock", laid_sigillary_rounds_errBlock), ("sigillary/rounds.errWord", laid_sigillary_rounds_errWord), ("sigillary/rounds.constants", laid_sigillary_rounds_constants)], narrowed := true }
def DigestEndsUptoSaid : Prop := digestEndsUptoRow.holds Tryd.pinned (OpenSpec.upto digestEndsSpec)

/-- 'sigillarylaw02.DigestTwo', WHERE WHAT IT READS IS OF BULK AT MOST 1048576: true; the input reads as it did. -/
def digestTwoUptoRow : OpenClaim := { program := "ytfafidholldjlaadoor", sum := "70035ec44b83e469f171e193812f28f68b1cc9e012ce8a3a6e30a78d5209f9de", func := "sigillary/sigillarylaw02.DigestTwo", spec := "digestTwo", inPlace := ["internal/reflectlite.ValueOf", "(internal/reflectlite.Value).Type", "(internal/reflectlite.Value).IsNil", "internal/reflectlite.TypeOf", "(internal/reflectlite.Value).Elem", "(internal/reflectlite.Value).Set"], unfollowed := true, recurses := true, named := ["errors.errorType", "sigillary/rounds.errWord", "sigillary/rounds.errBlock", "sigillary/rounds.constants"], apart := false, laid := [("errors.errorType", laid_errors_errorType), ("sigillary/rounds.errBlock", laid_sigillary_rounds_errBlock), ("sigillary/rounds.errWord", laid_sigillary_rounds_errWord), ("sigillary/rounds.constants", laid_sigillary_rounds_constants)], narrowed := true }
def DigestTwoUptoSaid : Prop := digestTwoUptoRow.holds Tryd.pinned (OpenSpec.upto digestTwoSpec)

/-- 'sigillarylaw02.DigestPlays', WHERE WHAT IT READS IS OF BULK AT MOST 1048576: true; the input reads as it did. -/
def digestPlaysUptoRow : OpenClaim := { program := "ytfafidholldjlaadoor", sum := "70035ec44b83e469f171e193812f28f68b1cc9e012ce8a3a6e30a78d5209f9de", func := "sigillary/sigillarylaw02.DigestPlays", spec := "digestPlays", inPlace := ["internal/reflectlite.ValueOf", "(internal/reflectlite.Value).Type", "(internal/reflectlite.Value).IsNil", "internal/reflectlite.TypeOf", "(internal/reflectlite.Value).Elem", "(internal/reflectlite.Value).Set"], unfollowed := true, recurses := true, named := ["errors.errorType", "sigillary/rounds.errWord", "sigillary/rounds.errBlock", "sigillary/rounds.constants", "sigillary/sigillaryref01.k"], apart := false, laid := [("sigillary/sigillaryref01.k", laid_sigillary_sigillaryref01_k), ("errors.errorType", laid_errors_errorType), ("sigillary/rounds.errBlock", laid_sigillary_rounds_errBlock), ("sigillary/rounds.errWord", laid_sigillary_rounds_errWord), ("sigillary/rounds.constants", laid_sigillary_rounds_constants)], narrowed := true }
def DigestPlaysUptoSaid : Prop := digestPlaysUptoRow.holds Tryd.pinned (OpenSpec.upto digestPlaysSpec)

/-- 'sigillarylaw02.DigestResets', WHERE WHAT IT READS IS OF BULK AT MOST 1048576: true; the input reads as it did. -/
def digestResetsUptoRow : OpenClaim := { program := "ytfafidholldjlaadoor", sum := "70035ec44b83e469f171e193812f28f68b1cc9e012ce8a3a6e30a78d5209f9de", func := "sigillary/sigillarylaw02.DigestResets", spec := "digestResets", inPlace := ["internal/reflectlite.ValueOf", "(internal/reflectlite.Value).Type", "(internal/reflectlite.Value).IsNil", "internal/reflectlite.TypeOf", "(internal/reflectlite.Value).Elem", "(internal/reflectlite.Value).Set"], unfollowed := true, recurses := true, named := ["errors.errorType", "sigillary/rounds.errWord", "sigillary/rounds.errBlock", "sigillary/rounds.constants"], apart := false, laid := [("errors.errorType", laid_errors_errorType), ("sigillary/rounds.errBlock", laid_sigillary_rounds_errBlock), ("sigillary/rounds.errWord", laid_sigillary_rounds_errWord), ("sigillary/rounds.constants", laid_sigillary_rounds_constants)], narrowed := true }
def DigestResetsUptoSaid : Prop := digestResetsUptoRow.holds Tryd.pinned (OpenSpec.upto digestResetsSpec)

/-- 'sigillarylaw03.TagTells', WHERE WHAT IT READS IS OF BULK AT MOST 1048576: true; the input reads as it did. -/
def tagTellsUptoRow : OpenClaim := { program := "ytfafidholldjlaadoor", sum := "70035ec44b83e469f171e193812f28f68b1cc9e012ce8a3a6e30a78d5209f9de", func := "sigillary/sigillarylaw03.TagTells", spec := "tagTells", inPlace := ["internal/reflectlite.ValueOf", "(internal/reflectlite.Value).Type", "(internal/reflectlite.Value).IsNil", "internal/reflectlite.TypeOf", "(internal/reflectlite.Value).Elem", "(internal/reflectlite.Value).Set", "internal/abi.NoEscape", "internal/bytealg.MakeNoZero", "internal/bytealg.IndexByteString", "internal/bytealg.IndexString"], unfollowed := true, recurses := true, named := ["errors.errorType", "sigillary/rounds.errWord", "sigillary/rounds.errBlock", "sigillary/rounds.constants", "sigillary/sigillaryref01.k", "internal/bytealg.MaxLen"], apart := false, laid := [("sigillary/sigillaryref01.k", laid_sigillary_sigillaryref01_k), ("errors.errorType", laid_errors_errorType), ("sigillary/rounds.errBlock", laid_sigillary_rounds_errBlock), ("sigillary/rounds.errWord", laid_sigillary_rounds_errWord), ("sigillary/rounds.constants", laid_sigillary_rounds_constants)], narrowed := true }
def TagTellsUptoSaid : Prop := tagTellsUptoRow.holds Tryd.pinned (OpenSpec.upto tagTellsSpec)

/-- 'sigillarylaw03.TagKeys', WHERE WHAT IT READS IS OF BULK AT MOST 1048576: true; the input reads as it did. -/
def tagKeysUptoRow : OpenClaim := { program := "ytfafidholldjlaadoor", sum := "70035ec44b83e469f171e193812f28f68b1cc9e012ce8a3a6e30a78d5209f9de", func := "sigillary/sigillarylaw03.TagKeys", spec := "tagKeys", inPlace := ["internal/reflectlite.ValueOf", "(internal/reflectlite.Value).Type", "(internal/reflectlite.Value).IsNil", "internal/reflectlite.TypeOf", "(internal/reflectlite.Value).Elem", "(internal/reflectlite.Value).Set", "internal/abi.NoEscape", "internal/bytealg.MakeNoZero", "internal/bytealg.IndexByteString", "internal/bytealg.IndexString"], unfollowed := true, recurses := true, named := ["errors.errorType", "sigillary/rounds.errWord", "sigillary/rounds.errBlock", "sigillary/rounds.constants", "internal/bytealg.MaxLen"], apart := false, laid := [("errors.errorType", laid_errors_errorType), ("sigillary/rounds.errBlock", laid_sigillary_rounds_errBlock), ("sigillary/rounds.errWord", laid_sigillary_rounds_errWord), ("sigillary/rounds.constants", laid_sigillary_rounds_constants)], narrowed := true }
def TagKeysUptoSaid : Prop := tagKeysUptoRow.holds Tryd.pinned (OpenSpec.upto tagKeysSpec)

/-- 'sigillarylaw03.TagBack', WHERE WHAT IT READS IS OF BULK AT MOST 1048576: true; the input reads as it did. -/
def tagBackUptoRow : OpenClaim := { program := "ytfafidholldjlaadoor", sum := "70035ec44b83e469f171e193812f28f68b1cc9e012ce8a3a6e30a78d5209f9de", func := "sigillary/sigillarylaw03.TagBack", spec := "tagBack", inPlace := ["internal/reflectlite.ValueOf", "(internal/reflectlite.Value).Type", "(internal/reflectlite.Value).IsNil", "internal/reflectlite.TypeOf", "(internal/reflectlite.Value).Elem", "(internal/reflectlite.Value).Set", "internal/abi.NoEscape", "internal/bytealg.MakeNoZero", "internal/bytealg.IndexByteString", "internal/bytealg.IndexString"], unfollowed := true, recurses := true, named := ["errors.errorType", "sigillary/rounds.errWord", "sigillary/rounds.errBlock", "sigillary/rounds.constants", "internal/bytealg.MaxLen"], apart := false, laid := [("errors.errorType", laid_errors_errorType), ("sigillary/rounds.errBlock", laid_sigillary_rounds_errBlock), ("sigillary/rounds.errWord", laid_sigillary_rounds_errWord), ("sigillary/rounds.constants", laid_sigillary_rounds_constants)], narrowed := true }
def TagBackUptoSaid : Prop := tagBackUptoRow.holds Tryd.pinned (OpenSpec.upto tagBackSpec)

/-- 'sigillarylaw03.TagEnds', WHERE WHAT IT READS IS OF BULK AT MOST 1048576: true; the input reads as it did. -/
def tagEndsUptoRow : OpenClaim := { program := "ytfafidholldjlaadoor", sum := "70035ec44b83e469f171e193812f28f68b1cc9e012ce8a3a6e30a78d5209f9de", func := "sigillary/sigillarylaw03.TagEnds", spec := "tagEnds", inPlace := ["internal/reflectlite.ValueOf", "(internal/reflectlite.Value).Type", "(internal/reflectlite.Value).IsNil", "internal/reflectlite.TypeOf", "(internal/reflectlite.Value).Elem", "(internal/reflectlite.Value).Set", "internal/abi.NoEscape", "internal/bytealg.MakeNoZero", "internal/bytealg.IndexByteString", "internal/bytealg.IndexString"], unfollowed := true, recurses := true, named := ["errors.errorType", "sigillary/rounds.errWord", "sigillary/rounds.errBlock", "sigillary/rounds.constants", "internal/bytealg.MaxLen"], apart := false, laid := [("errors.errorType", laid_errors_errorType), ("sigillary/rounds.errBlock", laid_sigillary_rounds_errBlock), ("sigillary/rounds.errWord", laid_sigillary_rounds_errWord), ("sigillary/rounds.constants", laid_sigillary_rounds_constants)], narrowed := true }
def TagEndsUptoSaid : Prop := tagEndsUptoRow.holds Tryd.pinned (OpenSpec.upto tagEndsSpec)

/-- 'sigillarylaw03.TagParts', WHERE WHAT IT READS IS OF BULK AT MOST 1048576: true; the input reads as it did. -/
def tagPartsUptoRow : OpenClaim := { program := "ytfafidholldjlaadoor", sum := "70035ec44b83e469f171e193812f28f68b1cc9e012ce8a3a6e30a78d5209f9de", func := "sigillary/sigillarylaw03.TagParts", spec := "tagParts", inPlace := ["internal/reflectlite.ValueOf", "(internal/reflectlite.Value).Type", "(internal/reflectlite.Value).IsNil", "internal/reflectlite.TypeOf", "(internal/reflectlite.Value).Elem", "(internal/reflectlite.Value).Set", "internal/abi.NoEscape", "internal/bytealg.MakeNoZero", "internal/bytealg.IndexByteString", "internal/bytealg.IndexString"], unfollowed := true, recurses := true, named := ["errors.errorType", "sigillary/rounds.errWord", "sigillary/rounds.errBlock", "sigillary/rounds.constants", "internal/bytealg.MaxLen"], apart := false, laid := [("errors.errorType", laid_errors_errorType), ("sigillary/rounds.errBlock", laid_sigillary_rounds_errBlock), ("sigillary/rounds.errWord", laid_sigillary_rounds_errWord), ("sigillary/rounds.constants", laid_sigillary_rounds_constants)], narrowed := true }
def TagPartsUptoSaid : Prop := tagPartsUptoRow.holds Tryd.pinned (OpenSpec.upto tagPartsSpec)

/-- 'sigillarylaw03.TagJoins', WHERE WHAT IT READS IS OF BULK AT MOST 1048576: true; the input reads as it did. -/
def tagJoinsUptoRow : OpenClaim := { program := "ytfafidholldjlaadoor", sum := "70035ec44b83e469f171e193812f28f68b1cc9e012ce8a3a6e30a78d5209f9de", func := "sigillary/sigillarylaw03.TagJoins", spec := "tagJoins", inPlace := ["internal/reflectlite.ValueOf", "(internal/reflectlite.Value).Type", "(internal/reflectlite.Value).IsNil", "internal/reflectlite.TypeOf", "(internal/reflectlite.Value).Elem", "(internal/reflectlite.Value).Set", "internal/abi.NoEscape", "internal/bytealg.MakeNoZero", "internal/bytealg.IndexByteString", "internal/bytealg.IndexString"], unfollowed := true, recurses := true, named := ["errors.errorType", "sigillary/rounds.errWord", "sigillary/rounds.errBlock", "sigillary/rounds.constants", "internal/bytealg.MaxLen"], apart := false, laid := [("errors.errorType", laid_errors_errorType), ("sigillary/rounds.errBlock", laid_sigillary_rounds_errBlock), ("sigillary/rounds.errWord", laid_sigillary_rounds_errWord), ("sigillary/rounds.constants", laid_sigillary_rounds_constants)], narrowed := true }
def TagJoinsUptoSaid : Prop := tagJoinsUptoRow.holds Tryd.pinned (OpenSpec.upto tagJoinsSpec)

/-- 'sigillarylaw03.TagEqual', WHERE WHAT IT READS IS OF BULK AT MOST 1048576: true; the input reads as it did. -/
def tagEqualUptoRow : OpenClaim := { program := "ytfafidholldjlaadoor", sum := "70035ec44b83e469f171e193812f28f68b1cc9e012ce8a3a6e30a78d5209f9de", func := "sigillary/sigillarylaw03.TagEqual", spec := "tagEqual", inPlace := ["internal/reflectlite.ValueOf", "(internal/reflectlite.Value).Type", "(internal/reflectlite.Value).IsNil", "internal/reflectlite.TypeOf", "(internal/reflectlite.Value).Elem", "(internal/reflectlite.Value).Set", "internal/abi.NoEscape", "internal/bytealg.MakeNoZero", "internal/bytealg.IndexByteString", "internal/bytealg.IndexString"], unfollowed := true, recurses := true, named := ["errors.errorType", "sigillary/rounds.errWord", "sigillary/rounds.errBlock", "sigillary/rounds.constants", "internal/bytealg.MaxLen"], apart := false, laid := [("errors.errorType", laid_errors_errorType), ("sigillary/rounds.errBlock", laid_sigillary_rounds_errBlock), ("sigillary/rounds.errWord", laid_sigillary_rounds_errWord), ("sigillary/rounds.constants", laid_sigillary_rounds_constants)], narrowed := true }
def TagEqualUptoSaid : Prop := tagEqualUptoRow.holds Tryd.pinned (OpenSpec.upto tagEqualSpec)

end Rows
end Go.Proofs.YtfafidholldjlaaDoor
