/- Proved: TopKeys answers true for every input, never panics, and its input reads as it did; the one condition: the listed variables hold what the program's own text lays in them. -/
import Derived.Test.YtbikgdhbiebhcaaGreatDoorV15
import Derived.Test.YtbikgdhbiebhcaaGreatDoorCk2
import Derived.Test.YtbikgdhbiebhcaaGreatDoorCk4
import Derived.Test.YtbikgdhbiebhcaaGreatDoorCk9
set_option linter.unusedVariables false
set_option linter.unusedSimpArgs false
namespace Go.Proofs.YtbikgdhbiebhcaaGreatDoor.topKeys
open Go.ChangeShapes Go.WideShapes Go.ChangeAt Go.RowKit
set_option maxRecDepth 100000 in
set_option maxHeartbeats 1000000 in
theorem contract (H : Type) (enc : TypeId × Value → H) (W : World) (base : Nat) (args : Array Value) (ds gs : List (DataW H)) (before : List MemPlace)
    (hval:∀(j:Nat) t v,Tryz.f4.params[j]? =some t->args[j]? =some v->Value.okWide Tryz.prog W .any base t v)
    (hW:DataW.Whole enc Tryz.prog Tryz.f4.params.toList Rows.topKeysSpec.vars false W args.toList ds gs before) (hL:laidMetH Tryz.prog Rows.topKeysRow.laid W) (hS:W.ShapedOpen Tryz.prog):
    Calls Tryz.prog 4 args W λe W'=>∃v,e=.returned v/\Rows.topKeysSpec.post enc Tryz.prog Tryz.f4 false true false false W args v W':=by
  have hW':=hW
  obtain⟨p,q,hA0,hV,rfl,hfz,hnd⟩:=hW
  have hA:DataW.TrodAll enc Tryz.prog W 0 (λ_=>true) true Tryz.f4.params.toList args.toList ds p:=hA0
  rw[Tryz.params4]at hA hval
  obtain⟨v0,vs0,d0,ds0,p0,q0,hargs,rfl,rfl,h0,r0⟩:=trodAll_cons hA
  obtain⟨rfl,rfl,rfl⟩:=trodAll_nil r0
  obtain rfl:args=#[v0]:=by cases args;simp_all
  obtain⟨rfl,rfl⟩:=trodVars_none hV
  obtain⟨a0,len0,cap0,rfl⟩:=okWide_slice Tryz.underlying28 (hval 0 28 v0 rfl rfl)
  obtain⟨fuel0,hf0⟩:=h0
  obtain⟨l0,hlen0,hz0,g0,o0,hla0⟩:=open_scalars hf0
  clear hA0
  simp only[List.append_nil]at hW'
  have hG:=glob_of hS hL
  have hE:=errG_of hS hL
  have walk:=DM l0 a0 len0 cap0 g0 o0 hG hE hlen0 hz0 hla0
  refine walk.mono λe W' ⟨he,hb⟩=>?_
  subst he
  exact⟨_,rfl,post_below_any (P:=Tryz.prog) prog_kids prog_full (by rw[Tryz.params4,typesN];decide) rfl hW' (λ_ _ _=>trodAll_cons_mk (shut_bool Tryz.underlying4 _) trodAll_mk0) rfl rfl hb (ok_one (by kernel_rfl) rfl (okWide_bool_mk Tryz.underlying4 _))⟩
theorem reads (os:Os) {H:Type} (enc:TypeId × Value->H):∃places,DataW.whole enc Tryz.prog ((laidWorld os).forCall (λ_ _=>0) ⟨#[],#[.slice none 0 0],[]⟩).memory Tryz.f4.params.toList Rows.topKeysSpec.vars false (#[.slice none 0 0]:Array Value).toList 8=some ([.nil],[],places):=
  ⟨[],by kernel_rfl⟩
set_option maxRecDepth 100000 in
theorem lifted (os : Os) (started : os.Started) (H : Type) (enc : TypeId × Value → H) (F : Stop.Interp) :
    ReturnsInHanded {} Tryz.checked os 4 .any ((OpenSpec.ofChange Rows.topKeysSpec).preRow enc Tryz.prog Tryz.f4 Rows.topKeysRow.domain false Rows.topKeysRow.laid) (((OpenSpec.ofChange Rows.topKeysSpec).at F).post enc Tryz.prog Tryz.f4 false true false false):=by
  obtain⟨places,hx⟩:=reads os enc
  refine returnsInHanded_of_row (C:=Tryz.checked) (s:=OpenSpec.ofChange Rows.topKeysSpec) own started (by kernel_rfl) Tryz.func4
    (witness_row_atRef (enc:=enc) (C:=Tryz.checked) false (laidWorld os) #[.slice none 0 0] rfl (by kernel_rfl) (by kernel_rfl) (by kernel_rfl)
      (OpenSpec.preRow_of_cond 8 hx (by kernel_rfl) (λk hk=>by cases hk) (by kernel_rfl) (laid_met os _))) ?_
  intro W base args ds gs before hval hW _ _ _ hL hS _
  exact contract H enc W base args ds gs before hval hW hL hS
theorem facts:joinedFacts Tryz.prog 4 Tryz.f4 Rows.topKeysSpec Rows.topKeysRow=true:=by
  exact jkfacts
set_option maxRecDepth 100000 in
theorem said:Rows.TopKeysSaid:=
  OpenClaim.holds_of_cond 4 Tryz.f4 rfl rfl rfl rfl rfl rfl rfl ⟨rfl,rfl,rfl,rfl,rfl⟩ rfl rfl rfl rfl rfl (by kernel_rfl) Tryz.func4 facts
    (of_decide_eq_true (by kernel_rfl)) (by unfold Func.isWrapper;first | (rw[if_pos (by decide+kernel)];kernel_rfl) | (rw[if_neg (by decide+kernel)];exact⟨rfl,rfl⟩))
    (λos started H enc _ F=>by rw[OpenClaim.pre_eq_preRow];exact lifted os started H enc F)
theorem plain (f : FuncId) (fn : Func) (hf : Tryz.pinned.checked.prog.funcNamed "sigillary/sigillarytop.TopKeys" = some f) (hfn : Tryz.pinned.checked.prog.funcs[f]? = some fn) :
    true=Tryz.pinned.checked.prog.looks []/\∀(j:Nat) t,fn.params[j]? =some t->Tryz.pinned.checked.prog.wantsStandIn t=false:=by
  obtain rfl : f = 4 := Option.some.inj ((show Tryz.prog.funcNamed "sigillary/sigillarytop.TopKeys" = some 4 by kernel_rfl).symm.trans hf) |>.symm
  obtain rfl:fn=Tryz.f4:=(Option.some.inj (Tryz.func4.symm.trans hfn)).symm
  refine⟨by kernel_rfl,λj t ht=>?_⟩
  rw[Tryz.params4]at ht
  have hm:t=28:=by
    have:=Array.mem_of_getElem? ht
    simpa using this
  obtain rfl:=hm
  · exact(show Tryz.prog.wantsStandIn 28=false by kernel_rfl)
theorem card:Rows.TopKeysCardSaid:=
  Claim7.holds_tied_plain_at .later [] _ _ _ _ said (λ_ h=>by cases h) (by kernel_rfl) (λ_ h=>by cases h) topKeys_row_tie rfl ⟨rfl,rfl⟩ main_is rfl plain (by kernel_rfl)
end Go.Proofs.YtbikgdhbiebhcaaGreatDoor.topKeys
