/- What the program's head says, reckoned once for all rows. -/
import Derived.Test.YtbikgdhbiebhcaaGreatDoorCards
import Derived.WalkKit
import Derived.ProofKit
import Derived.JoinedCond
set_option linter.unusedVariables false
set_option linter.unusedSimpArgs false
namespace Go.Proofs.YtbikgdhbiebhcaaGreatDoor
open Go.RowKit
def space:Char:=Char.ofNat 32
def head1:List Char:=([104,97,114,110,101,115,115]:List Nat).map Char.ofNat
def head2:List Char:=([51,97,56,50,50,52,53,54,57,56,51,97,52,102,57,56,49,49,55,102,102,99,52,56,48,54,102,101,55,57,56,97,51,49,50,102,101,54,100,100,97,100,100,98,52,56,102,101,48,53,98,55,51,57,53,55,97,99,49,55,53,55,48,51]:List Nat).map Char.ofNat
def head3:List Char:=([99,117,116]:List Nat).map Char.ofNat
def head4:List Char:=([97,116,32,115,105,103,105,108,108,97,114,121,47,115,105,103,105,108,108,97,114,121,116,111,112,46,84,111,112,83,116,121,108,101,115,32,115,105,103,105,108,108,97,114,121,47,115,105,103,105,108,108,97,114,121,116,111,112,46,84,111,112,75,101,121,115]:List Nat).map Char.ofNat
theorem head_eq:Tryz.prog.initOrder=String.ofList (head1++space::(head2++space::(head3++space::head4))):=by kernel_rfl
theorem words_front:∀(w r:List Char),(∀c∈w,c≠space)->wordsSigns (w++space::r)=w::wordsSigns r
  | [],r,_=>rfl
  | c::w,r,h=>by
    have ih:=words_front w r (λx hx=>h x (List.mem_cons_of_mem _ hx))
    have hc:c≠space:=h c List.mem_cons_self
    show wordsSigns (c::(w++space::r))=_
    rw[wordsSigns.eq_3 c _ (λe=>hc e),ih]
theorem head_words:∃rest,behindMainWord (wordsSigns Tryz.prog.initOrder.toList)=head3::rest:=by
  refine⟨wordsSigns head4,?_⟩
  rw[head_eq,String.toList_ofList,words_front _ _ (by decide),words_front _ _ (by decide),words_front _ _ (by decide)]
  have e : ((head1 == "harness".toList || head1 == "ownmain".toList) && isSumSigns head2) = true := by kernel_rfl
  show (if ((head1 == "harness".toList || head1 == "ownmain".toList) && isSumSigns head2) = true then head3 :: wordsSigns head4 else head1 :: head2 :: head3 :: wordsSigns head4) = _
  rw[e]
  exact if_pos rfl
theorem strip (rest:List (List Char)):stripLifts liftWords (head3::rest)=([],head3::rest):=by kernel_rfl
theorem no_gc : (head3 == "gc".toList) = false := by kernel_rfl
theorem no_spec : (head3 == "spec".toList) = false := by kernel_rfl
theorem no_carried : (head3 == "carried".toList) = false := by kernel_rfl
theorem is_cut : (head3 == "cut".toList) = true := by kernel_rfl
theorem may_of {P:Program} {rest:List (List Char)} (h:behindMainWord (wordsSigns P.initOrder.toList)=head3::rest) (h1:P.laysLater=false) (h2:P.bearsReflect=false) (h3:P.doorFits []=true):P.mayEnter=true:=by
  unfold Program.mayEnter
  rw[h]
  simp only[strip,no_gc,no_spec,no_carried,h1,h2,h3,List.head?_cons,Option.some_beq_some,is_cut]
  simp
theorem make_of {P:Program} {rest:List (List Char)} (h:behindMainWord (wordsSigns P.initOrder.toList)=head3::rest):P.make=some .cut:=by
  unfold Program.make
  rw[h]
  simp only[no_gc,no_spec,is_cut]
  simp
theorem lifts_of {P:Program} {rest:List (List Char)} (h:behindMainWord (wordsSigns P.initOrder.toList)=head3::rest):P.liftsFinal=false:=by
  unfold Program.liftsFinal Program.headLifts
  rw[h]
  simp only[strip,List.head?_cons,Option.some_beq_some,no_carried,is_cut]
  simp
theorem may:Tryz.prog.mayEnter=true:=by
  obtain⟨rest,h⟩:=head_words
  exact may_of h (by kernel_rfl) (by kernel_rfl) (by kernel_rfl)
theorem lifts:Tryz.prog.liftsFinal=false:=by
  obtain⟨rest,h⟩:=head_words
  exact lifts_of h
theorem make_cut:Tryz.prog.make=some .cut:=by
  obtain⟨rest,h⟩:=head_words
  exact make_of h
theorem main_of {P : Program} {rest : List (List Char)} (h : wordsSigns P.initOrder.toList = head1 :: head2 :: rest) : P.mainIs = some (true, "3a822456983a4f98117ffc4806fe798a312fe6ddaddb48fe05b73957ac175703".toList) := by
  unfold Program.mainIs
  rw[h]
  have e1 : (head1 == "harness".toList) = true := by kernel_rfl
  have e2:isSumSigns head2=true:=by kernel_rfl
  have e3 : head2 = "3a822456983a4f98117ffc4806fe798a312fe6ddaddb48fe05b73957ac175703".toList := by kernel_rfl
  show (if (!isSumSigns head2) = true then none else if (head1 == "harness".toList) = true then some (true, head2) else if (head1 == "ownmain".toList) = true then some (false, head2) else none) = _
  rw[e2,e1,if_neg (by decide),if_pos rfl,e3]
theorem main_is : Tryz.prog.mainIs = some (true, "3a822456983a4f98117ffc4806fe798a312fe6ddaddb48fe05b73957ac175703".toList) := by
  refine main_of (rest:=head3::wordsSigns head4) ?_
  rw[head_eq,String.toList_ofList,words_front _ _ (by decide),words_front _ _ (by decide),words_front _ _ (by decide)]
end Go.Proofs.YtbikgdhbiebhcaaGreatDoor
