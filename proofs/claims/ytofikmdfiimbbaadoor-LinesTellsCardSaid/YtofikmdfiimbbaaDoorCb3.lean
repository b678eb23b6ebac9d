/- What the program's head says, reckoned once for all rows. -/
import Derived.Test.YtofikmdfiimbbaaDoorCards
import Derived.WalkKit
import Derived.ProofKit
import Derived.JoinedCond
set_option linter.unusedVariables false
set_option linter.unusedSimpArgs false
namespace Go.Proofs.YtofikmdfiimbbaaDoor
open Go.RowKit
def space : Char := Char.ofNat 32
def head1 : List Char := ([104, 97, 114, 110, 101, 115, 115] : List Nat).map Char.ofNat
def head2 : List Char := ([56, 102, 50, 57, 102, 98, 98, 102, 100, 55, 98, 100, 56, 49, 53, 98, 57, 54, 51, 97, 102, 99, 102, 99, 97, 48, 55, 101, 101, 54, 49, 55, 54, 98, 102, 48, 97, 53, 98, 101, 55, 50, 102, 101, 53, 101, 56, 51, 50, 56, 48, 51, 55, 56, 102, 52, 100, 55, 55, 50, 97, 99, 55, 53] : List Nat).map Char.ofNat
def head3 : List Char := ([99, 117, 116] : List Nat).map Char.ofNat
def head4 : List Char := ([97, 116, 32, 115, 105, 103, 105, 108, 108, 97, 114, 121, 47, 115, 105, 103, 105, 108, 108, 97, 114, 121, 108, 97, 119, 49, 52, 46, 76, 105, 110, 101, 115, 84, 101, 108, 108, 115, 32, 115, 105, 103, 105, 108, 108, 97, 114, 121, 47, 115, 105, 103, 105, 108, 108, 97, 114, 121, 108, 97, 119, 49, 52, 46, 76, 105, 110, 101, 115, 66, 97, 99, 107, 32, 115, 105, 103, 105, 108, 108, 97, 114, 121, 47, 115, 105, 103, 105, 108, 108, 97, 114, 121, 108, 97, 119, 49, 52, 46, 76, 105, 110, 101, 115, 78, 111, 116, 101, 115, 32, 115, 105, 103, 105, 108, 108, 97, 114, 121, 47, 115, 105, 103, 105, 108, 108, 97, 114, 121, 108, 97, 119, 49, 52, 46, 76, 105, 110, 101, 115, 82, 105, 115, 101, 32, 115, 105, 103, 105, 108, 108, 97, 114, 121, 47, 115, 105, 103, 105, 108, 108, 97, 114, 121, 108, 97, 119, 49, 52, 46, 76, 105, 110, 101, 115, 74, 111, 105, 110, 115, 32, 115, 105, 103, 105, 108, 108, 97, 114, 121, 47, 115, 105, 103, 105, 108, 108, 97, 114, 121, 108, 97, 119, 49, 52, 46, 76, 105, 110, 101, 115, 70, 105, 114, 115, 116] : List Nat).map Char.ofNat
theorem head_eq : Tryd.prog.initOrder = String.ofList (head1 ++ space :: (head2 ++ space :: (head3 ++ space :: head4))) := by kernel_rfl
theorem words_front : ∀ (w r : List Char), (∀ c ∈ w, c ≠ space) → wordsSigns (w ++ space :: r) = w :: wordsSigns r
  | [], r, _ => rfl
  | c :: w, r, h => by
    have ih := words_front w r (fun x hx => h x (List.mem_cons_of_mem _ hx))
    have hc : c ≠ space := h c List.mem_cons_self
    show wordsSigns (c :: (w ++ space :: r)) = _
    rw [wordsSigns.eq_3 c _ (fun e => hc e), ih]
theorem head_words : ∃ rest, behindMainWord (wordsSigns Tryd.prog.initOrder.toList) = head3 :: rest := by
  refine ⟨wordsSigns head4, ?_⟩
  rw [head_eq, String.toList_ofList, words_front _ _ (by decide), words_front _ _ (by decide), words_front _ _ (by decide)]
  have e : ((head1 == "harness".toList || head1 == "ownmain".toList) && isSumSigns head2) = true := by kernel_rfl
  show (if ((head1 == "harness".toList || head1 == "ownmain".toList) && isSumSigns head2) = true then head3 :: wordsSigns head4 else head1 :: head2 :: head3 :: wordsSigns head4) = _
  rw [e]
  exact if_pos rfl
theorem strip (rest : List (List Char)) : stripLifts liftWords (head3 :: rest) = ([], head3 :: rest) := by kernel_rfl
theorem no_gc : (head3 == "gc".toList) = false := by kernel_rfl
theorem no_spec : (head3 == "spec".toList) = false := by kernel_rfl
theorem no_carried : (head3 == "carried".toList) = false := by kernel_rfl
theorem is_cut : (head3 == "cut".toList) = true := by kernel_rfl
theorem may_of {P : Program} {rest : List (List Char)} (h : behindMainWord (wordsSigns P.initOrder.toList) = head3 :: rest) (h1 : P.laysLater = false) (h2 : P.bearsReflect = false) (h3 : P.doorFits [] = true) : P.mayEnter = true := by
  unfold Program.mayEnter
  rw [h]
  simp only [strip, no_gc, no_spec, no_carried, h1, h2, h3, List.head?_cons, Option.some_beq_some, is_cut]
  simp
theorem make_of {P : Program} {rest : List (List Char)} (h : behindMainWord (wordsSigns P.initOrder.toList) = head3 :: rest) : P.make = some .cut := by
  unfold Program.make
  rw [h]
  simp only [no_gc, no_spec, is_cut]
  simp
theorem lifts_of {P : Program} {rest : List (List Char)} (h : behindMainWord (wordsSigns P.initOrder.toList) = head3 :: rest) : P.liftsFinal = false := by
  unfold Program.liftsFinal Program.headLifts
  rw [h]
  simp only [strip, List.head?_cons, Option.some_beq_some, no_carried, is_cut]
  simp
theorem may : Tryd.prog.mayEnter = true := by
  obtain ⟨rest, h⟩ := head_words
  exact may_of h (by kernel_rfl) (by kernel_rfl) (by kernel_rfl)
theorem lifts : Tryd.prog.liftsFinal = false := by
  obtain ⟨rest, h⟩ := head_words
  exact lifts_of h
theorem make_cut : Tryd.prog.make = some .cut := by
  obtain ⟨rest, h⟩ := head_words
  exact make_of h
theorem main_of {P : Program} {rest : List (List Char)} (h : wordsSigns P.initOrder.toList = head1 :: head2 :: rest) : P.mainIs = some (true, "8f29fbbfd7bd815b963afcfca07ee6176bf0a5be72fe5e83280378f4d772ac75".toList) := by
  unfold Program.mainIs
  rw [h]
  have e1 : (head1 == "harness".toList) = true := by kernel_rfl
  have e2 : isSumSigns head2 = true := by kernel_rfl
  have e3 : head2 = "8f29fbbfd7bd815b963afcfca07ee6176bf0a5be72fe5e83280378f4d772ac75".toList := by kernel_rfl
  show (if (!isSumSigns head2) = true then none else if (head1 == "harness".toList) = true then some (true, head2) else if (head1 == "ownmain".toList) = true then some (false, head2) else none) = _
  rw [e2, e1, if_neg (by decide), if_pos rfl, e3]
theorem main_is : Tryd.prog.mainIs = some (true, "8f29fbbfd7bd815b963afcfca07ee6176bf0a5be72fe5e83280378f4d772ac75".toList) := by
  refine main_of (rest := head3 :: wordsSigns head4) ?_
  rw [head_eq, String.toList_ofList, words_front _ _ (by decide), words_front _ _ (by decide), words_front _ _ (by decide)]
end Go.Proofs.YtofikmdfiimbbaaDoor
