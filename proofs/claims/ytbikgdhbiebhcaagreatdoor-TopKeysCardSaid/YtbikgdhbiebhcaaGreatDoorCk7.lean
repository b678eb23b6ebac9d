/- What a call leaves that has changed nothing old, whatever memory its arguments hold. -/
import Derived.Test.YtbikgdhbiebhcaaGreatDoorCk2
import Derived.ReadAgain
set_option linter.unusedVariables false
set_option linter.unusedSimpArgs false
namespace Go.Proofs.YtbikgdhbiebhcaaGreatDoor
open Go.ChangeShapes Go.WideShapes Go.ChangeAt Go.RowKit
theorem trodAll_carry {H : Type} {enc : TypeId × Value → H} {P : Program} {w w' : World} {base : Nat} {sp : Nat → Bool} {held : Bool} : ∀ {ts : List TypeId} {vs : List Value} {ds : List (DataW H)} {ps : List MemPlace},
    DataW.TrodAll enc P w base sp held ts vs ds ps->(∀p∈ps,w.sameAt w' p)->DataW.TrodAll enc P w' base sp held ts vs ds ps
  | [],[],[],_,h,_=>h
  | _::_,_::_,_::_,_,⟨p,q,⟨n,h1⟩,h2,e⟩,hs=>
    ⟨p,q,⟨n,DataW.trod_carry n _ _ _ h1 (λx hx=>hs x (by rw[e];exact List.mem_append_left _ hx))⟩,trodAll_carry h2 (λx hx=>hs x (by rw[e];exact List.mem_append_right _ hx)),e⟩
theorem prog_kids:Kids Tryz.prog (· < Tryz.prog.types.size):=kids_rows (by kernel_rfl) (by kernel_rfl)
theorem prog_full:∀t e,t < Tryz.prog.types.size->Tryz.prog.underlying t=some (.slice e)->0 < Tryz.prog.cellsOf e:=slices_full_of Tryz.prog (by kernel_rfl)
theorem post_below_any {H : Type} {enc : TypeId × Value → H} {P : Program} (hK : Kids P (· < P.types.size)) (hfull : ∀ t e, t < P.types.size → P.underlying t = some (.slice e) → 0 < P.cellsOf e) {f : Func} {s : ChangeSpec} {apart fresh handsOn again : Bool} {W W' : World} {args : Array Value} {v : Value} {ds : List (DataW H)} {before : List MemPlace}
    (hts:∀t∈f.params.toList,t < P.types.size) (hsv:s.vars=[])
    (hW:DataW.Whole enc P f.params.toList s.vars apart W args.toList ds [] before)
    (hres:∀(b:Nat) (sp:Nat->Bool) (hd:Bool),DataW.TrodAll enc P W' b sp hd f.resultTypes.toList (v.resultList f.resultTypes.size) (s.fn H (ds++[])).results [])
    (hargs:(s.fn H (ds++[])).args=ds) (hvars:(s.fn H (ds++[])).vars=[])
    (hb:Below W.heap.size W W')
    (hok:∀(j:Nat) (t:TypeId) (r:Value),f.resultTypes[j]? =some t->(v.resultList f.resultTypes.size)[j]? =some r->Value.okWide P W' .any 0 t r):
    s.post enc P f apart fresh handsOn again W args v W':=by
  have hlt:=hW.lt
  have hW0:=hW
  obtain⟨p,q,hA,hV,hpq,hz,hn⟩:=hW
  have hV':=hV
  rw[hsv]at hV'
  have hq:q=[]:=hV'
  subst hq
  rw[List.append_nil]at hpq
  subst hpq
  have hA':DataW.TrodAll enc P W' 0 (λ_=>true) true f.params.toList args.toList ds before:=trodAll_carry hA (λx hx=>hb.same (hlt x hx))
  have hA2:∀sp:Nat->Bool,(∀x∈before,sp x.block=true)->DataW.TrodAll enc P W' 0 sp true f.params.toList args.toList (s.fn H (ds++[])).args before:=by
    intro sp hsp
    rw[hargs]
    exact DataW.TrodAll.respare hK hfull hts hA' hsp
  have hV2:∀sp:Nat->Bool,DataW.TrodVars enc P W' sp s.vars (s.fn H (ds++[])).vars []:=by
    intro sp
    rw[hvars,hsv]
    show ([]:List MemPlace)=[]
    rfl
  have hold:∀x∈before,(λb=>decide (b < W.heap.size)) x.block=true:=λx hx=>by simpa using hlt x hx
  refine⟨ds,[],before,[],before,[],hW0,hres _ _ _,hA2 _ hold,hV2 _,World.keptBut_mono (λx hx=>⟨hx,.inr (.inl hx)⟩) (hb.frame (·∈before)),λ_=>?_⟩
  refine⟨hok,_,_,([]++before)++[],⟨[]++before,[],trodAll_append (hA2 _ (λ_ _=>rfl)) (hres _ _ _),hV2 _,rfl,?_,?_⟩,?_⟩
  · intro b off hp
    have hp':MemPlace.cell b off∈before:=by simpa using hp
    rw[World.frozen?_of_block (w:=W) (hb.block b (hlt _ hp'))]
    exact hz b off hp'
  · intro ha
    simpa using hn ha
  · intro x hx _
    simpa using hx
end Go.Proofs.YtbikgdhbiebhcaaGreatDoor
