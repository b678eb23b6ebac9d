/- Part 2. -/
import Derived.Test.YtbikgdhbiebhcaaGreatDoorV01
import Derived.Stop.RegionWithIn
import Derived.RangeFuncBox
import Derived.Lib.ConvBytes
set_option linter.unusedVariables false
set_option linter.unusedSimpArgs false
set_option maxRecDepth 100000
set_option maxHeartbeats 2000000
open Go.Value renaming int -> V, string -> U, slice -> Y, pointer -> Z, func -> φ, agg -> γ, bool -> β
open Go.IntKind renaming i64 -> I
open Option renaming some -> W, none -> O
open Go.Obj renaming cells -> J
open Go.Ending renaming returned -> ρ
open Go.Proofs.Tryz renaming prog -> π
open Nat renaming le_refl -> η
open Go.RowKit.Below renaming refl -> ζ
namespace Go.Proofs.YtbikgdhbiebhcaaGreatDoor
open Go.RowKit Tryz
abbrev NS:=Nat->Prop
def y8(a b:NS)(c:Nat):NS:=λk=>¬b k/\(a k\/c<=k)
def yQ(P:Program)(gf:Nat)(lb:Array Value)(m:Nat)(p:Nat)(u:Nat->Array Value->NS->World->Prop)(n r:NS)(q:Prop)(s:Nat->World->Prop)(x:World->Prop)(w:World):Prop:=
 ∀(l:Nat) (d:Nat->NS->World->Prop) (f:NS->World->Prop) (o:NS) (g:World),Below w.heap.size w g->w.heap.size+2<=g.heap.size->(∀k,o k->¬n k/\¬r k)->
  (∀t a b c,d t a b->Far (y8 n a w.heap.size) b c->d t a c)->(∀a b c,f a b->Far (y8 n a w.heap.size) b c->f a c)->
  (∀t a b,d t a b->s t b/\(q->∀k,a k->k < b.heap.size))->
  (∀t,t < p->∀a i v b,d t a b->u t v i b->(∀k,i k->¬a k/\k < b.heap.size)->YieldAt Fence.wide m P l v b λe c=>∃j,(Far a b c/\∀k,j k->a k\/i k\/b.heap.size<=k)/\((e=ρ (β true)/\d (t+1) j c)\/(e=ρ (β false)/\f j c)))->
  d 0 o g->Calls P gf (#[φ (.yield l) #[] #[]]++lb) g λe c=>(∃v,e=ρ v)/\((∃a,d p a c/\x c)\/∃a,f a c)
def AF(d:Prop)(i:NS->World->Prop)(g:Code->NS->World->Prop)(b c:NS)(e:Nat)(f:World):Exit->Act->World->Prop
 | .normal,_,W'=>∃a,i a W'/\Far b f W'/\∀k,a k->(b k\/c k\/e<=k)/\(d->k < W'.heap.size)
 | .ret,_,W'=>∃a,g .ret a W'/\Far b f W'/\∀k,a k->(b k\/c k\/e<=k)/\(d->k < W'.heap.size)
 | .exit id,_,W'=>∃a,g (.exit id) a W'/\Far b f W'/\∀k,a k->(b k\/c k\/e<=k)/\(d->k < W'.heap.size)
 | .goto t,_,W'=>∃a,g (.goto t) a W'/\Far b f W'/\∀k,a k->(b k\/c k\/e<=k)/\(d->k < W'.heap.size)
 | .panic _,_,_=>False
 | .outgrown,_,_=>False
theorem aC{P:Program}{n:Nat}{g:Operand}{ps:Array Tmp}{assign body:Code}{Q:Exit->Act->World->Prop}{a:Act}{w:World}{gf:Nat}{lb:Array Value}{N:Nat}{E:Nat->Array Value->NS->World->Prop}{own rd:NS}{ins:Prop}{Kn:Nat->World->Prop}{Fin:World->Prop}
(hg:a.eval g=φ (.func gf) #[] lb)(eg:∀args w,(callFunc gf args).run P w=.ok (.enter gf args) w)
(hiter:yQ P gf lb (n - 1 - 1) N E own rd ins Kn Fin w)(hown:∀k,own k->k < w.heap.size)(hrd:∀k,rd k->k < w.heap.size)(hps:∀t v G W,E t v G W->v.size=ps.size)
(I:Nat->NS->World->Prop)(Ix:Code->NS->World->Prop)(F0:NS)(hF0:∀k,F0 k->¬own k/\¬rd k/\k≠w.heap.size/\k≠w.heap.size+1/\(ins->k < w.heap.size))(h0:I 0 F0 w)
(hI:∀t F W W',I t F W->Far (y8 own F w.heap.size) W W'->I t F W')(hIx:∀c F W W',Ix c F W->Far (y8 own F w.heap.size) W W'->Ix c F W')
(hKn:∀t F W,I t F W->Kn t W)(hFin:∀W W',Fin W->Far (·=w.heap.size+1) W W'->Fin W')
(hround:∀t F G v W (K:Act→World→Prop),t < N→w.heap.size+1 < W.heap.size→I t F W→E t v G W→(∀k,G k→¬F k∧k≠w.heap.size∧k≠w.heap.size+1∧k < W.heap.size)→(∀k,F k→k≠w.heap.size∧k≠w.heap.size+1∧(ins→k < W.heap.size))→
  (∀a₁ W',Far xO W W'->(∀W'',Far (·=w.heap.size+1) W' W''->(∃L,W''.heap[w.heap.size+1]? =some (.loop L))->W''.heap[w.heap.size]? =some (.deferred (some []))->body.wpIn (Fence.wide.inRound (w.heap.size+1)) (n - 1 - 1) P (AF ins (I (t+1)) Ix F G W.heap.size W'') a₁ W'')->K a₁ W')->
  assign.wpIn (Fence.wide.inRound (w.heap.size+1)) (n - 1 - 1) P (Exit.then K (λ_ _ _=>False)) { tmps:=(ps.zip v).foldl (λs (p,v)=>s.setIfInBounds p v) a.tmps,defers:=[] } W)
(hdone:∀F W,I N F W->Fin W->W.heap[w.heap.size]? =some (.deferred (some []))->(∀k,F k->k≠w.heap.size)->Q .normal { a with defers:={ target:=.collected w.heap.size,args:=#[] }::a.defers } W)
(hstop:∀c F W,Ix c F W->W.heap[w.heap.size]? =some (.deferred (some []))->(∀k,F k->k≠w.heap.size)->c.wpIn Fence.wide n P Q { a with defers:={ target:=.collected w.heap.size,args:=#[] }::a.defers } W):
 (Code.rangeFunc g ps assign body).wpIn Fence.wide n P Q a w:=by
 refine wpIn_rangeFunc ?_;intro fn hfn;obtain⟨rec,hrec⟩:∃rec:LoopState->Option Code->Loop,rec=λst pe=>{ state:=st,pending:=pe,fn,tmps:=a.tmps,params:=ps,assign,body,defers:=w.heap.size }:=⟨_,rfl⟩;obtain⟨W1,hW1⟩:∃W1,(w.alloc (.deferred (some []))).alloc (.loop (rec .ready O))=W1:=⟨_,rfl⟩;have hL1:W1.heap[w.heap.size+1]? =some (.loop (rec .ready O)):=by
  rw[<-hW1];exact ah _ _ _ (by simp)
 have hK1:W1.heap[w.heap.size]? =some (.deferred (some [])):=by
  rw[<-hW1];exact aa _ (af w _)
 have hb1:Below w.heap.size w W1:=by rw[<-hW1];exact((ζ _ w).alloc (η _) _).alloc (by simp) _
 have hz1:w.heap.size+2<=W1.heap.size:=by rw[<-hW1];simp
 have hI1:I 0 F0 W1:=hI 0 F0 w _ h0 ((ξ _ _).below hb1);have new1:∀F (W W':World),(∀k,F k->k≠w.heap.size/\k≠w.heap.size+1)->Far (·=w.heap.size+1) W W'->Far (y8 own F w.heap.size) W W':=λF W W' hF h=>h.mono λi _ e=>⟨λhf=>(hF i hf).2 e,.inr (by omega)⟩;refine⟨w.heap.size+1,[{ target:=.collected w.heap.size,args:=#[] }],W1,{ target:=.fn (.func gf) lb,args:=#[φ (.yield (w.heap.size+1)) #[] #[]] },W1,gf,
  #[φ (.yield (w.heap.size+1)) #[] #[]]++lb,W1,?_,?_,?_,?_,λh=>absurd h (by simp[Fence.wide]),?_⟩
 ·rw[<-hW1,hrec];exact run_enterLoop_outer _ _ _ _ _
 ·simp only[resolve,hg]
  simp[go_sem]
 ·intro f' _;trivial
 ·simp[invoke,go_sem,eg]
 ·obtain⟨J,hJdef⟩:∃J:Nat->NS->World->Prop,J=λt F W=>∃F1:NS,(∀k,F k↔F1 k\/k=w.heap.size\/k=w.heap.size+1)/\(∀k,F1 k->k≠w.heap.size/\k≠w.heap.size+1/\(ins->k < W.heap.size))/\I t F1 W/\W.heap[w.heap.size+1]? =some (.loop (rec .ready O))/\W.heap[w.heap.size]? =some (.deferred (some [])):=⟨_,rfl⟩
  obtain⟨Jx,hJxdef⟩:∃Jx:NS->World->Prop,Jx=λF W=>∃(F1:NS) (c:Code),(∀k,F k↔F1 k\/k=w.heap.size\/k=w.heap.size+1)/\(∀k,F1 k->k≠w.heap.size/\k≠w.heap.size+1/\(ins->k < W.heap.size))/\Ix c F1 W/\W.heap[w.heap.size+1]? =some (.loop (rec .done (some c)))/\W.heap[w.heap.size]? =some (.deferred (some [])):=⟨_,rfl⟩;have mine:∀(F F1:NS) (W W':World),(∀k,F k↔F1 k\/k=w.heap.size\/k=w.heap.size+1)->Far (y8 own F w.heap.size) W W'->Far (y8 own F1 w.heap.size) W W':=λF F1 W W' hF h=>h.mono λi _ e=>⟨λh1=>e.1 ((hF i).2 (.inl h1)),e.2⟩;refine callsIn_wide.2 ((hiter (w.heap.size+1) J Jx (λk=>F0 k\/k=w.heap.size\/k=w.heap.size+1) W1 hb1 hz1 ?_ ?_ ?_ ?_ ?_ ?_).mono ?_)
  ·rintro k (h|rfl|rfl)
   ·exact⟨(hF0 k h).1,(hF0 k h).2.1⟩
   ·exact⟨λho=>by have:=hown _ ho;omega,λho=>by have:=hrd _ ho;omega⟩
   ·exact⟨λho=>by have:=hown _ ho;omega,λho=>by have:=hrd _ ho;omega⟩
  ·rw[hJdef]
   rintro t F W W' ⟨F1,hF,hF1,hi,hl,hk⟩ hf;exact⟨F1,hF,λk h=>⟨(hF1 k h).1,(hF1 k h).2.1,λhin=>zK ((hF1 k h).2.2 hin) hf.size⟩,hI t F1 W W' hi (mine F F1 W W' hF hf),hf.heap hl (λe=>e.1 ((hF _).2 (.inr (.inr rfl)))),hf.heap hk (λe=>e.1 ((hF _).2 (.inr (.inl rfl))))⟩
  ·rw[hJxdef]
   rintro F W W' ⟨F1,c,hF,hF1,hi,hl,hk⟩ hf;exact⟨F1,c,hF,λk h=>⟨(hF1 k h).1,(hF1 k h).2.1,λhin=>zK ((hF1 k h).2.2 hin) hf.size⟩,hIx c F1 W W' hi (mine F F1 W W' hF hf),hf.heap hl (λe=>e.1 ((hF _).2 (.inr (.inr rfl)))),hf.heap hk (λe=>e.1 ((hF _).2 (.inr (.inl rfl))))⟩
  ·rw[hJdef]
   rintro t F W ⟨F1,hF,hF1,hi,hl,hk⟩;refine⟨hKn t F1 W hi,λhin k h=>?_⟩;rcases (hF k).1 h with h|rfl|rfl
   ·exact(hF1 k h).2.2 hin
   ·exact lt_of_heap hk
   ·exact lt_of_heap hl
  ·intro t ht F G v W0 hJ hE hG
   rw[hJdef]at hJ;obtain⟨F1,hF,hF1,hi,hl0,hk0⟩:=hJ;have hlt0:w.heap.size+1 < W0.heap.size:=lt_of_heap hl0;have hy:=run_yield (P:=P) (args:=v) hl0 (by rw[hrec];exact hps t v G W0 hE);rw[hrec]at hy;have hG1:∀k,G k->¬F1 k/\k≠w.heap.size/\k≠w.heap.size+1/\k < W0.heap.size:=λk h=>⟨λh1=>(hG k h).1 ((hF k).2 (.inl h1)),λh1=>(hG k h).1 ((hF k).2 (.inr (.inl h1))),λh1=>(hG k h).1 ((hF k).2 (.inr (.inr h1))),(hG k h).2⟩;refine⟨fn,_,assign,body,hy,roundIn_of_wpIn trivial (hround t F1 G v W0 _ ht hlt0 hi hE hG1 hF1 (λa₁ W hFW hbody=>?_))⟩;have hl:=hFW.heap hl0 (λe=>e);have hk:=hFW.heap hk0 (λe=>e);have hlt:w.heap.size+1 < W.heap.size:=lt_of_heap hl;refine⟨_,run_beginRound hl (by rw[hrec]),?_⟩;have hl2:(W.putObj (w.heap.size+1) (.loop { rec .ready O with state:=.busy })).heap[w.heap.size+1]? =some (.loop { rec .ready O with state:=.busy }):=World.putObj_heap_same hlt;have hk2:(W.putObj (w.heap.size+1) (.loop { rec .ready O with state:=.busy })).heap[w.heap.size]? =some (.deferred (some [])):=(World.putObj_heap_other (by omega)).trans hk;have hf2:Far (·=w.heap.size+1) W (W.putObj (w.heap.size+1) (.loop { rec .ready O with state:=.busy })):=aI _ _ _;refine wpIn_mono (hbody _ hf2 ⟨_,hl2⟩ hk2) ?_;have fin:∀(jump:Option Code) (W3:World) (F':NS),Far F1 (W.putObj (w.heap.size+1) (.loop { rec .ready O with state:=.busy })) W3->(∀k,F' k->(F1 k\/G k\/W0.heap.size<=k)/\(ins->k < W3.heap.size))->
    (Instr.endRound (w.heap.size+1) jump).run P W3=.ok (β jump.isNone) (W3.putObj (w.heap.size+1) (.loop (rec (if jump.isNone then .ready else .done) jump)))/\
    (W3.putObj (w.heap.size+1) (.loop (rec (if jump.isNone then .ready else .done) jump))).heap[w.heap.size+1]? =some (.loop (rec (if jump.isNone then .ready else .done) jump))/\
    (W3.putObj (w.heap.size+1) (.loop (rec (if jump.isNone then .ready else .done) jump))).heap[w.heap.size]? =some (.deferred (some []))/\
    Far F W0 (W3.putObj (w.heap.size+1) (.loop (rec (if jump.isNone then .ready else .done) jump)))/\(∀k,(F' k\/k=w.heap.size\/k=w.heap.size+1)->F k\/G k\/W0.heap.size<=k)/\
    (∀k,F' k->k≠w.heap.size/\k≠w.heap.size+1/\(ins->k < (W3.putObj (w.heap.size+1) (.loop (rec (if jump.isNone then .ready else .done) jump))).heap.size))/\Far (·=w.heap.size+1) W3 (W3.putObj (w.heap.size+1) (.loop (rec (if jump.isNone then .ready else .done) jump))):=λjump W3 F' hk3 hF'=>by
    have hl3:=hk3.heap hl2 (λe=>(hF1 _ e).2.1 rfl);have hd3:=hk3.heap hk2 (λe=>(hF1 _ e).1 rfl);have:=run_endRound (P:=P) jump hl3;rw[hrec]at this ⊢;refine⟨this,World.putObj_heap_same (lt_of_heap hl3),(World.putObj_heap_other (by omega)).trans hd3,?_,?_,?_,aI _ _ _⟩
    ·rw[hrec]at hk3 hf2
     exact(((hFW.mono (λ_ _ e=>e.elim)).step hf2 (λi _ e=>(hF i).2 (.inr (.inr e)))).step hk3 (λi _ e=>(hF i).2 (.inl e))).step (aI _ _ _) (λi _ e=>(hF i).2 (.inr (.inr e)))
    ·rintro k (h|h)
     ·rcases (hF' k h).1 with h|h
      ·exact .inl ((hF k).2 (.inl h))
      ·exact .inr h
     ·exact .inl ((hF k).2 (.inr h))
    ·intro k h
     refine⟨?_,?_,λhin=>by simpa using (hF' k h).2 hin⟩
     ·rcases (hF' k h).1 with h|h|h
      ·exact(hF1 k h).1
      ·exact(hG1 k h).2.1
      ·omega
     ·rcases (hF' k h).1 with h|h|h
      ·exact(hF1 k h).2.1
      ·exact(hG1 k h).2.2.1
      ·omega
   rintro e a3 W3 hp;rw[hJdef,hJxdef];cases e with
   |normal=>
    obtain⟨F',hi3,hk3,hF'⟩:=hp;obtain⟨hr,hl4,hk4,hf4,hs4,hn4,hp4⟩:=fin O W3 F' hk3 hF';exact⟨_,_,hr,_,⟨hf4,hs4⟩,.inl ⟨rfl,F',λk=>Iff.rfl,hn4,hI _ _ _ _ hi3 (new1 _ _ _ (λk h=>⟨(hn4 k h).1,(hn4 k h).2.1⟩) hp4),hl4,hk4⟩⟩
   |ret=>
    obtain⟨F',hi3,hk3,hF'⟩:=hp;obtain⟨hr,hl4,hk4,hf4,hs4,hn4,hp4⟩:=fin (some .ret) W3 F' hk3 hF';exact⟨_,_,hr,_,⟨hf4,hs4⟩,.inr ⟨rfl,F',.ret,λk=>Iff.rfl,hn4,hIx _ _ _ _ hi3 (new1 _ _ _ (λk h=>⟨(hn4 k h).1,(hn4 k h).2.1⟩) hp4),hl4,hk4⟩⟩
   |exit id=>
    obtain⟨F',hi3,hk3,hF'⟩:=hp;obtain⟨hr,hl4,hk4,hf4,hs4,hn4,hp4⟩:=fin (some (.exit id)) W3 F' hk3 hF';exact⟨_,_,hr,_,⟨hf4,hs4⟩,.inr ⟨rfl,F',.exit id,λk=>Iff.rfl,hn4,hIx _ _ _ _ hi3 (new1 _ _ _ (λk h=>⟨(hn4 k h).1,(hn4 k h).2.1⟩) hp4),hl4,hk4⟩⟩
   |goto t=>
    obtain⟨F',hi3,hk3,hF'⟩:=hp;obtain⟨hr,hl4,hk4,hf4,hs4,hn4,hp4⟩:=fin (some (.goto t)) W3 F' hk3 hF';exact⟨_,_,hr,_,⟨hf4,hs4⟩,.inr ⟨rfl,F',.goto t,λk=>Iff.rfl,hn4,hIx _ _ _ _ hi3 (new1 _ _ _ (λk h=>⟨(hn4 k h).1,(hn4 k h).2.1⟩) hp4),hl4,hk4⟩⟩
   |panic ch=>exact hp.elim
   |outgrown=>exact hp.elim
  ·rw[hJdef]
   exact⟨F0,λk=>Iff.rfl,λk h=>⟨(hF0 k h).2.2.1,(hF0 k h).2.2.2.1,λhin=>zK ((hF0 k h).2.2.2.2 hin) hb1.size⟩,hI1,hL1,hK1⟩
  ·rw[hJdef,hJxdef]
   rintro e W2 ⟨⟨v,rfl⟩,(⟨F,⟨F1,hF,hF1,hi,hl,hk⟩,hfin⟩|⟨F,F1,c,hF,hF1,hi,hl,hk⟩)⟩
   ·exact⟨O,_,by have:=run_endLoop (P:=P) hl (by rw[hrec];simp);rw[hrec]at this;exact this,hdone F1 _ (hI _ _ _ _ hi (new1 _ _ _ (λk h=>⟨(hF1 k h).1,(hF1 k h).2.1⟩) (aI _ _ _))) (hFin _ _ hfin (aI _ _ _)) ((World.putObj_heap_other (by omega)).trans hk) (λk h=>(hF1 k h).1)⟩
   ·exact⟨some c,_,by have:=run_endLoop (P:=P) hl (by rw[hrec];simp);rw[hrec]at this;exact this,hstop c F1 _ (hIx _ _ _ _ hi (new1 _ _ _ (λk h=>⟨(hF1 k h).1,(hF1 k h).2.1⟩) (aI _ _ _))) ((World.putObj_heap_other (by omega)).trans hk) (λk h=>(hF1 k h).1)⟩
theorem au{P:Program}{n:Nat}{f:Func}{g:Ending->World->Prop}{q:Nat}{a:Act}{b:World}(d:a.defers=[{ target:=.collected q,args:=#[] }])(i:b.heap[q]? =W (.deferred (W [])))
(e:∀c,Far (·=q) b c->∃v,(results f a.tmps).run P c=.ok v c/\g (ρ v) c):bodyPostM Fence.wide n P f g .ret a b:=by
 obtain⟨k,j⟩:=a;simp only at d e;subst d;refine⟨by simp,.inl ⟨_,_,rfl,run_takeDeferred i,?_⟩⟩;exact e _ (aI b q (.deferred O))
section
section
variable {P:Program} {ops:Array Oper} {md:Region.Mode} {Q:Exit->Act->World->Prop} {S:World->Prop} {E:List Nat}
def yk(P:Program)(c:Region.Mode)(b:Array Oper)(Q:Exit->Act->World->Prop)(d:World->Prop)(e:List Nat):Nat->Array Bool->Act->World->Prop
 |0,listed,a,w=>Region.ready c b listed=[]/\Q .normal a w
 |fuel+1,listed,a,w=>
  (Region.ready c b listed=[]->Q .normal a w)/\
  ∀i∈Region.ready c b listed,wpOp P b Q i (λf w'=>(i ∉ e->d w')/\yk P c b Q d e fuel (listed.setIfInBounds i true) f w') a w
theorem gL:∀(b:Nat) (c:Array Bool) (a:Act) (w:World),yk P md ops Q S E b c a w->wpAny P md ops Q b c a w
 |0,_,_,_,h=>h
 |b+1,_,_,_,h=>⟨h.1,λi f=>wpOp_mono (λe w' d=>gL b _ e w' d.2) (h.2 i f)⟩
def reach(b:Region.Mode)(a:Array Oper)(i:Nat):Nat->Nat->Bool
 |0,_=>false
 |f+1,e=>match a[e]? with|some o=>o.after.any λx=>Region.binds b x&&(x.on==i||reach b a i f x.on)|none=>false
def waits(c:Region.Mode)(b:Array Oper)(a:List Nat)(i:Nat):Bool:= !a.contains i&&a.all λe=>reach c b i 6 e
def yS(c:Region.Mode)(b:Array Oper)(a:Array Bool):Prop:=∀(j:Nat) (o:Oper),b[j]? =W o->a.getD j false=true->∀e∈o.after,Region.binds c e=true->a.getD e.on false=true
def As(c:Region.Mode)(b:Array Oper)(a:Array Bool):Bool:=(List.range b.size).all λj=>match b[j]? with|some o=>!a.getD j false||o.after.all λe=>!Region.binds c e||a.getD e.on false|none=>true
theorem gu{b:Array Bool}(g:As md ops b=true):yS md ops b:=by
 intro j o c i e k l;have f:j < ops.size:=(Array.getElem?_eq_some_iff.1 c).1;have a:=List.all_eq_true.1 g j (List.mem_range.2 f);rw[c]at a;simp only[i,Bool.not_true,Bool.false_or]at a;have d:=Array.all_eq_true'.1 a e k;rw[l]at d
 simpa using d
theorem eu{b:Array Bool}{j:Nat}(m:yS md ops b)(n:j∈Region.ready md ops b):yS md ops (b.setIfInBounds j true):=by
 intro k o c d e f g;obtain⟨_,p,a,l⟩:=mem_ready.1 n;refine getD_set_true ?_;by_cases i:j=k
 ·subst i
  rw[c]at a;injection a with a;subst a;exact l e f g
 ·rw[getD_set_ne false i]at d
  exact m k o c d e f g
theorem cL{b:Array Bool}{i:Nat}(j:yS md ops b):∀(c e:Nat),reach md ops i c e=true->(∀o,ops[e]? =W o->∀x∈o.after,Region.binds md x=true->b.getD x.on false=true)->b.getD i false=true
 |0,e,a,_=>by cases a
 |c+1,e,a,hd=>by
  unfold reach at a;cases d:ops[e]? with
  |none=>rw[d]at a;cases a
  |some o=>
   rw[d]at a;obtain⟨x,q,f⟩:=Array.any_eq_true'.1 a;rw[zQ,Bool.or_eq_true]at f;have g:=hd o d x q f.1;rcases f.2 with a|a
   ·rw[<-eq_of_beq a];exact g
   ·exact cL j c x.on a (λp n k m l=>j _ p n g k m l)
theorem jE{i j:Nat}{c:Array Bool}(s:yS md ops c)(f:waits md ops E i=true)(r:j∈Region.ready md ops c)(m:i∈Region.ready md ops c):j ∉ E:=by
 intro g;unfold waits at f;rw[zQ]at f;have q:=List.all_eq_true.1 f.2 j g;obtain⟨_,t,b,p⟩:=mem_ready.1 r;have a:=cL s 6 j q (λo l x n k=>by rw[l]at b;injection b with b;subst b;exact p x n k);have d:=(mem_ready.1 m).1;rcases Nat.lt_or_ge i c.size with e|e
 ·rw[Array.getD_eq_getD_getElem?,Array.getElem?_eq_getElem e]at d a
  simp at d a
  rw[d]at a;cases a
 ·simp[Array.getElem?_eq_none e]at a
theorem ev{i:Nat}{f:Oper}{v:Value}(q:ops[i]? =W f)(u:∀(j:Nat) (o:Oper) m n,ops[j]? =W o->o.op≠.select m n)
(C:∀G a w,Q (.panic G) (a.put f.dst v) w->Q (.panic G) a w)(F:waits md ops E i=true):
 ∀(r:Nat) (b:Array Bool) (a:Act) (w:World),yS md ops b->
  (∀j d,ops[j]? =W d->j≠i->b.getD j true=false->(∀e∈d.after,Region.binds md e=true->e.on≠i)->f.apart ops d=true)->
  i∈Region.ready md ops b->YieldsIf P ops S f v a->S w->
  yk P md ops Q S E r (b.setIfInBounds i true) (a.put f.dst v) w->yk P md ops Q S E (r+1) b a w
 |0,b,a,w,_,_,hr,hy,hS,H=>by
  refine⟨λx=>(by rw[x]at hr;cases hr),λj g=>?_⟩;by_cases c:j=i
  ·rw[c];exact hy.wpOp q hS ⟨λ_=>hS,H⟩
  ·have:=ready_mono g c
   rw[H.1]at this;cases this
 |r+1,b,a,w,hc,hfree,hr,hy,hS,H=>by
  refine⟨λx=>(by rw[x]at hr;cases hr),λj g=>?_⟩;by_cases c:j=i
  ·rw[c];exact hy.wpOp q hS ⟨λ_=>hS,H⟩
  ·have y:=jE hc F g hr
   obtain⟨D,d,s,al⟩:=mem_ready.1 g;have L:∀e∈d.after,Region.binds md e=true->e.on≠i:=λe an N R=>by
    have l:=al e an N;have z:=(mem_ready.1 hr).1;rw[R]at l;rcases Nat.lt_or_ge i b.size with t|t
    ·simp[t]at z l;rw[z]at l;cases l
    ·simp[Array.getElem?_eq_none t]at l
   refine wpOp_mono (λX w' p=>⟨λ_=>p.2.1 y,ev q u C F r (b.setIfInBounds j true) X w' (eu hc g) (λk ab T M ac ad=>?_) (ready_mono hr (Ne.symm c)) p.1 (p.2.1 y) ?_⟩)
    (wpOp_putIf s (hfree j d s c D L) (λm n=>u i f m n q) (λm n=>u j d m n s) C hy (H.2 j (ready_mono g c)))
   ·refine hfree k ab T M ?_ ad
    by_cases A:j=k
    ·exact A ▸ D
    ·rwa [getD_set_ne true A]at ac
   ·rw[Array.setIfInBounds_comm _ _ c]
    exact p.2.2
def zj(b:Region.Mode)(a:Array Oper)(c:List Nat):List Nat->Array Bool->Bool
 | [],_=>true
 |i::is,l=>As b a l&&Region.free b a l i&&(Region.ready b a l).contains i&&waits b a c i&&zj b a c is (l.setIfInBounds i true)
def Ab:List Nat->Array Bool->Array Bool
 | [],l=>l
 |i::is,l=>Ab is (l.setIfInBounds i true)
def xT(P:Program)(b:Array Oper)(d:World->Prop):List Nat->Act->(Act->Prop)->Prop
 | [],a,K=>K a
 |i::is,a,K=>∃c v,b[i]? =W c/\YieldsIf P b d c v a/\xT P b d is (a.put c.dst v) K
theorem xT.take{i:Nat}{c:List Nat}{a:Act}{K:Act->Prop}{b:Oper}{v:Value}(f:ops[i]? =W b)(d:Region.wanted b (yielded ops a.tmps)=true)(g:∀w,S w->(execOp a.eval b).run P w=.ok (.value v) w)(e:xT P ops S c (a.put b.dst v) K):xT P ops S (i::c) a K:=⟨b,v,f,.inl ⟨d,g⟩,e⟩
theorem xT.skip{i:Nat}{c:List Nat}{a:Act}{K:Act->Prop}{b:Oper}(f:ops[i]? =W b)(d:Region.wanted b (yielded ops a.tmps)=false)(e:xT P ops S c (a.put b.dst undef) K):xT P ops S (i::c) a K:=⟨b,undef,f,.inr ⟨d,rfl⟩,e⟩
theorem xT.done{a:Act}{K:Act->Prop}(b:K a):xT P ops S [] a K:=b
theorem aJ(l:Region.noSelect ops=true)(m:∀e a (k:Option Tmp × Value) w,Q (.panic e) (a.put k.1 k.2) w->Q (.panic e) a w){w:World}(g:S w)(f:Nat):∀(c:List Nat) (b:Array Bool) (a:Act),zj md ops E c b=true->
 xT P ops S c a (λo=>yk P md ops Q S E f (Ab c b) o w)->yk P md ops Q S E (f+c.length) b a w
 | [],b,a,_,d=>d
 |i::c,b,a,hk,d=>by
  unfold zj at hk;rw[zQ,zQ,zQ,zQ]at hk;obtain⟨q,v,j,n,p⟩:=d;exact ev j (Region.noSelect_spec l) (λe a w d=>m e a (_,_) w d) hk.1.2 _ b a w (gu hk.1.1.1.1) (Region.free_spec j hk.1.1.1.2) (by simpa using hk.1.1.2) n g (aJ l m g f c _ _ hk.2 p)
theorem dx{i:Nat}{g:Oper}{v:Value}(p:ops[i]? =W g)(x:∀(j:Nat) (o:Oper) m n,ops[j]? =W o->o.op≠.select m n)
(C:∀F a w,Q (.panic F) (a.put g.dst v) w->Q (.panic F) a w)(u:i∈E):
 ∀(q:Nat) (c:Array Bool) (a:Act) (w:World),
  (∀j f,ops[j]? =W f->j≠i->c.getD j true=false->(∀e∈f.after,Region.binds md e=true->e.on≠i)->g.apart ops f=true)->
  i∈Region.ready md ops c->YieldsIf P ops (λ_=>True) g v a->
  yk P md ops Q S E q (c.setIfInBounds i true) (a.put g.dst v) w->yk P md ops Q S E (q+1) c a w
 |0,c,a,w,_,hr,hy,H=>by
  refine⟨λd=>(by rw[d]at hr;cases hr),λj r=>?_⟩;by_cases b:j=i
  ·rw[b];exact hy.wpOp p trivial ⟨λd=>absurd u d,H⟩
  ·have:=ready_mono r b
   rw[H.1]at this;cases this
 |q+1,c,a,w,hfree,hr,hy,H=>by
  refine⟨λd=>(by rw[d]at hr;cases hr),λj r=>?_⟩;by_cases b:j=i
  ·rw[b];exact hy.wpOp p trivial ⟨λd=>absurd u d,H⟩
  ·obtain⟨D,f,s,ad⟩:=mem_ready.1 r
   have G:∀e∈f.after,Region.binds md e=true->e.on≠i:=λe al M N=>by
    have l:=ad e al M;have z:=(mem_ready.1 hr).1;rw[N]at l;rcases Nat.lt_or_ge i c.size with t|t
    ·simp[t]at z l;rw[z]at l;cases l
    ·simp[Array.getElem?_eq_none t]at l
   refine wpOp_mono (λT w' y=>⟨y.2.1,dx p x C u q (c.setIfInBounds j true) T w' (λk X R L ab ac=>?_) (ready_mono hr (Ne.symm b)) y.1 ?_⟩)
    (wpOp_putIf s (hfree j f s b D G) (λm n=>x i g m n p) (λm n=>x j f m n s) C hy (H.2 j (ready_mono r b)))
   ·refine hfree k X R L ?_ ac
    by_cases A:j=k
    ·exact A ▸ D
    ·rwa [getD_set_ne true A]at ab
   ·rw[Array.setIfInBounds_comm _ _ b]
    exact y.2.2
def Ac(b:Region.Mode)(a:Array Oper)(c:List Nat):List Nat->Array Bool->Bool
 | [],_=>true
 |i::is,l=>Region.free b a l i&&(Region.ready b a l).contains i&&c.contains i&&Ac b a c is (l.setIfInBounds i true)
theorem ee(l:Region.noSelect ops=true)(g:∀e a (k:Option Tmp × Value) w,Q (.panic e) (a.put k.1 k.2) w->Q (.panic e) a w){w:World}(f:Nat):∀(c:List Nat) (b:Array Bool) (a:Act),Ac md ops E c b=true->
 xT P ops (λ_=>True) c a (λn=>yk P md ops Q S E f (Ab c b) n w)->yk P md ops Q S E (f+c.length) b a w
 | [],b,a,_,d=>d
 |i::c,b,a,hk,d=>by
  unfold Ac at hk;rw[zQ,zQ,zQ]at hk;obtain⟨p,v,j,m,o⟩:=d;exact dx j (Region.noSelect_spec l) (λe a w d=>g e a (_,_) w d) (by simpa using hk.1.2) _ b a w (Region.free_spec j hk.1.1.1) (by simpa using hk.1.1.2) m (ee l g f c _ _ hk.2 o)
def xQ(P:Program)(j:Region.Mode)(c:Array Oper)(Q:Exit->Act->World->Prop)(b:World->Prop)(d:List Nat)(e:Nat)(g:Array Bool)(a:Act)(w:World)(f:List Nat):Prop:=
 ∀i∈f,wpOp P c Q i (λk w'=>(i ∉ d->b w')/\yk P j c Q b d e (g.setIfInBounds i true) k w') a w
theorem ww(b:List Nat){d:Nat}{c:Array Bool}{a:Act}{w:World}(e:Region.ready md ops c=b)(f:b≠[])(g:xQ P md ops Q S E d c a w b):yk P md ops Q S E (d+1) c a w:=
 ⟨λi=>absurd (e ▸ i) f,e ▸ g⟩
theorem aP{c:Array Bool}{a:Act}{w:World}(e:Region.ready md ops c=[])(d:Q .normal a w):∀b:Nat,yk P md ops Q S E b c a w
 |0=>⟨e,d⟩
 |b+1=>⟨λ_=>d,by rw[e];intro i f;cases f⟩
theorem xQ.nil{b:Nat}{c:Array Bool}{a:Act}{w:World}:xQ P md ops Q S E b c a w []:=λ_ d=>by cases d
theorem xQ.cons{c:Nat}{d:Array Bool}{a:Act}{w:World}{i:Nat}{o:Oper}{f:List Nat}(k:ops[i]? =W o)(l:Region.wanted o (yielded ops a.tmps)=true)
(m:∀b:Act->World->Prop,Shut (∀a w,(i ∉ E->S w)->yk P md ops Q S E c (d.setIfInBounds i true) a w->b a w)->Oper.wp P o a w b Q)
(q:xQ P md ops Q S E c d a w f):xQ P md ops Q S E c d a w (i::f):=λj e=>by
 rcases List.mem_cons.1 e with rfl|e
 ·exact wpOp_step k (λb p=>by rw[if_pos l];exact m b (λa w n g=>p a w ⟨n,g⟩))
 ·exact q j e
theorem aq(b:List Nat){d:Nat}{c:Array Bool}{a:Act}{w:World}(e:xQ P md ops Q S E d c a w b)(g:Region.ready md ops c=b:=by kernel_rfl)(f:b≠[]:=by simp):yk P md ops Q S E (d+1) c a w:=ww b g f e
theorem aj{b:Nat}{c:Array Bool}{a:Act}{w:World}{i:Nat}{o:Oper}{d:List Nat}(f:ops[i]? =W o)(g:∀e:Act->World->Prop,Shut (∀a w,(i ∉ E->S w)->yk P md ops Q S E b (c.setIfInBounds i true) a w->e a w)->Oper.wp P o a w e Q)(k:xQ P md ops Q S E b c a w d)(j:Region.wanted o (yielded ops a.tmps)=true:=by kernel_rfl):xQ P md ops Q S E b c a w (i::d):=xQ.cons f j g k
def zw(a:Array Oper):Bool:=a.all λo=>match o.op with| .defer _=>false|_=>true
theorem oT(c:zw ops=true)(i:Nat)(o:Oper)(b:ops[i]? =W o):∀a,o.op≠.defer a:=by
 intro a e;obtain⟨d,rfl⟩:=Array.getElem?_eq_some_iff.1 b;have:=(Array.all_eq_true.1 c) i d;rw[e]at this;cases this
theorem gD(l n:Nat)(m:zw ops=true)(q:¬LetsOut Q){i:Nat}{K k:Act->World->Prop}{a:Act}{w:World}(c:∀a w,K a w->k a w)(b:wpOp P ops Q i K a w):wpOpIn (Fence.wide.inRound l) n P ops Q i k a w:=by
 unfold wpOp at b;unfold wpOpIn;cases g:ops[i]? with
 |none=>rw[g]at b;exact c _ _ b
 |some o=>
  rw[g]at b;simp only at b ⊢;split
  ·rename_i hw
   rw[if_pos hw]at b;rcases b with b|b
   ·unfold Oper.wpIn
    refine⟨λ_ _=>trivial,?_⟩;rw[Oper.semAt_eq _ _ _ (oT m i o g)];unfold Oper.wp at b;generalize (execOp a.eval o).run P w=d at *;cases d with
    |ok x w'=>
     cases x<;>simp only[Oper.uponIn,Oper.upon]at b ⊢
     case value=>exact c _ _ b
     case skip=>exact c _ _ b
     case defer=>exact c _ _ b
     case enter f args=>
      refine⟨λb=>by simp[Fence.wide]at b,CallsIn.mono (CallsIn.inRound l (callsIn_wide.2 b)) (λe t j=>by cases e<;>first|exact c _ _ j|exact j)⟩
     case row f args=>
      exact⟨λb=>by simp[Fence.wide]at b,λr p _=>let ⟨v,w2,d,s⟩:=b r p;⟨v,w2,c _ _ d,stepsIn_wide.2 s⟩⟩
    |halt x w'=>cases x<;>simp only[Oper.uponIn,Oper.upon]at b ⊢<;>exact b
   ·exact absurd b.2 q
  ·rename_i hw
   rw[if_neg hw]at b;exact⟨λ_ _=>trivial,c _ _ b⟩
theorem ew(l n:Nat)(c:zw ops=true)(d:¬LetsOut Q):∀(b:Nat) (e:Array Bool) (a:Act) (w:World),yk P md ops Q S E b e a w->wpAnyIn (Fence.wide.inRound l) n P md ops Q b e a w
 |0,_,_,_,h=>h
 |b+1,_,_,_,h=>⟨h.1,λi j=>gD l n c d (λg w' f=>ew l n c d b _ g w' f.2) (h.2 i j)⟩
theorem aN{c l n:Nat}{a:Act}{w:World}(e:World->Prop)(i:List Nat)(d:P.follows .mixedOrders=true)(b:zw ops=true)(f:¬LetsOut Q)
(g:yk P .any ops Q e i ops.size (Array.replicate ops.size false) a w.drew):(Code.region c ops true).wpIn (Fence.wide.inRound l) n P Q a w:=
 wpIn_region_any d (ew l n b f _ _ _ _ g)
theorem ar{b:Nat}{a:Act}{w:World}(d:World->Prop)(f:List Nat)(c:P.follows .mixedOrders=true)
(e:yk P .any ops Q d f ops.size (Array.replicate ops.size false) a w.drew):(Code.region b ops true).wp P Q a w:=
 wp_region_any c (gL _ _ _ _ e)
end
end
section
section
variable {P:Program} {ops:Array Oper} {md:Region.Mode} {Q:Exit->Act->World->Prop} {S:World->Prop} {E:List Nat}
def AE(b:Nat)(d:Region.Mode)(c:Array Oper)(a:List Nat)(i:Nat):Bool:= !a.contains i&&a.all λe=>reach d c i b e
theorem nT(g:Nat){i j:Nat}{c:Array Bool}(f:AE g md ops E i=true)(t:yS md ops c)(s:j∈Region.ready md ops c)(n:i∈Region.ready md ops c):j ∉ E:=by
 intro k;unfold AE at f;rw[zQ]at f;have r:=List.all_eq_true.1 f.2 j k;obtain⟨_,u,b,q⟩:=mem_ready.1 s;have a:=cL t g j r (λo m x p l=>by rw[m]at b;injection b with b;subst b;exact q x p l);have d:=(mem_ready.1 n).1;rcases Nat.lt_or_ge i c.size with e|e
 ·rw[Array.getD_eq_getD_getElem?,Array.getElem?_eq_getElem e]at d a
  simp at d a
  rw[d]at a;cases a
 ·simp[Array.getElem?_eq_none e]at a
theorem dy{i:Nat}{f:Oper}{v:Value}(q:ops[i]? =W f)(u:∀(j:Nat) (o:Oper) m n,ops[j]? =W o->o.op≠.select m n)
(C:∀G a w,Q (.panic G) (a.put f.dst v) w->Q (.panic G) a w)(F:∀(b:Array Bool) (j:Nat),yS md ops b->j∈Region.ready md ops b->i∈Region.ready md ops b->j ∉ E):
 ∀(r:Nat) (b:Array Bool) (a:Act) (w:World),yS md ops b->
  (∀j d,ops[j]? =W d->j≠i->b.getD j true=false->(∀e∈d.after,Region.binds md e=true->e.on≠i)->f.apart ops d=true)->
  i∈Region.ready md ops b->YieldsIf P ops S f v a->S w->
  yk P md ops Q S E r (b.setIfInBounds i true) (a.put f.dst v) w->yk P md ops Q S E (r+1) b a w
 |0,b,a,w,_,_,hr,hy,hS,H=>by
  refine⟨λx=>(by rw[x]at hr;cases hr),λj g=>?_⟩;by_cases c:j=i
  ·rw[c];exact hy.wpOp q hS ⟨λ_=>hS,H⟩
  ·have:=ready_mono g c
   rw[H.1]at this;cases this
 |r+1,b,a,w,hc,hfree,hr,hy,hS,H=>by
  refine⟨λx=>(by rw[x]at hr;cases hr),λj g=>?_⟩;by_cases c:j=i
  ·rw[c];exact hy.wpOp q hS ⟨λ_=>hS,H⟩
  ·have y:=F b j hc g hr
   obtain⟨D,d,s,al⟩:=mem_ready.1 g;have L:∀e∈d.after,Region.binds md e=true->e.on≠i:=λe an N R=>by
    have l:=al e an N;have z:=(mem_ready.1 hr).1;rw[R]at l;rcases Nat.lt_or_ge i b.size with t|t
    ·simp[t]at z l;rw[z]at l;cases l
    ·simp[Array.getElem?_eq_none t]at l
   refine wpOp_mono (λX w' p=>⟨λ_=>p.2.1 y,dy q u C F r (b.setIfInBounds j true) X w' (eu hc g) (λk ab T M ac ad=>?_) (ready_mono hr (Ne.symm c)) p.1 (p.2.1 y) ?_⟩)
    (wpOp_putIf s (hfree j d s c D L) (λm n=>u i f m n q) (λm n=>u j d m n s) C hy (H.2 j (ready_mono g c)))
   ·refine hfree k ab T M ?_ ad
    by_cases A:j=k
    ·exact A ▸ D
    ·rwa [getD_set_ne true A]at ac
   ·rw[Array.setIfInBounds_comm _ _ c]
    exact p.2.2
def Ad(d:Nat)(b:Region.Mode)(a:Array Oper)(c:List Nat):List Nat->Array Bool->Bool
 | [],_=>true
 |i::is,l=>As b a l&&Region.free b a l i&&(Region.ready b a l).contains i&&AE d b a c i&&Ad d b a c is (l.setIfInBounds i true)
theorem ay(f:Nat)(o:Region.noSelect ops=true)(m:∀e a (k:Option Tmp × Value) w,Q (.panic e) (a.put k.1 k.2) w->Q (.panic e) a w){w:World}(p:S w)(g:Nat):∀(c:List Nat) (b:Array Bool) (a:Act),Ad f md ops E c b=true->
 xT P ops S c a (λr=>yk P md ops Q S E g (Ab c b) r w)->yk P md ops Q S E (g+c.length) b a w
 | [],b,a,_,d=>d
 |i::c,b,a,hk,d=>by
  unfold Ad at hk;rw[zQ,zQ,zQ,zQ]at hk;obtain⟨y,v,n,q,s⟩:=d;exact dy n (Region.noSelect_spec o) (λe a w d=>m e a (_,_) w d) (λl j x u t=>nT f hk.1.2 x u t) _ b a w (gu hk.1.1.1.1) (Region.free_spec n hk.1.1.1.2) (by simpa using hk.1.1.2) q p (ay f o m p g c _ _ hk.2 s)
end
end
section
section
variable {n:Nat} {P:Program} {ops:Array Oper} {md:Region.Mode} {Q:Exit->Act->World->Prop} {S:World->Prop} {E:List Nat}
theorem jB{i:Nat}{o:Oper}{v:Value}{a:Act}(g:ops[i]? =W o)(e:YieldsIf P ops S o v a){K:Act->World->Prop}{w:World}(f:S w)(c:K (a.put o.dst v) w):wpOpIn Fence.wide n P ops Q i K a w:=by
 unfold Go.wpOpIn;simp only[g];rcases e with ⟨b,d⟩|⟨b,rfl⟩
 ·simp only[b,if_true,Oper.wpIn,show Fence.wide.round=O from rfl,Oper.semAt_none,d w f,Oper.uponIn];exact⟨λ_ _=>trivial,c⟩
 ·simp only[b,Bool.false_eq_true,if_false];exact⟨λ_ _=>trivial,c⟩
theorem jC{j:Nat}{oi oj:Oper}{v:Value}(hj:ops[j]? =W oj)(hap:oi.apart ops oj=true)(hsi:∀cs b,oi.op≠.select cs b)(hsj:∀cs b,oj.op≠.select cs b)
(hQ:∀c a w,Q (.panic c) (a.put oi.dst v) w->Q (.panic c) a w){K:Act->World->Prop}{a:Act}{w:World}(hy:YieldsIf P ops S oi v a)(h:wpOpIn Fence.wide n P ops Q j K (a.put oi.dst v) w):
 wpOpIn Fence.wide n P ops Q j (λa' w'=>YieldsIf P ops S oi v a'/\K (a'.put oi.dst v) w') a w:=by
 obtain⟨h1,h2,h3⟩:=Oper.apart_spec hap;have keep:∀(a:Act),YieldsIf P ops S oi v a->∀u,YieldsIf P ops S oi v (a.put oj.dst u):=λa hy u=>hy.of_same (execOp_put oi hsi a oj.dst u h3) (wanted_put oi a oj.dst u h3);have keepD:∀d,YieldsIf P ops S oi v { a with defers:=d::a.defers }:=λd=>hy.of_same rfl rfl;unfold wpOpIn at *;simp only[hj]at *;rw[wanted_put oj a oi.dst v h1,about_put oj w a oi.dst v h1]at h;split
 ·rename_i hw
  simp only[hw,if_true]at h;unfold Oper.wpIn at *;rw[about_put oj w a oi.dst v h1]at h;refine⟨h.1,?_⟩;have h:=h.2;rw[show Fence.wide.round=O from rfl,Oper.semAt_none,execOp_put oj hsj a oi.dst v h1]at h;rw[show Fence.wide.round=O from rfl,Oper.semAt_none];generalize (execOp a.eval oj).run P w=r at *;cases r with
  |ok x w'=>
   cases x<;>simp only[Oper.uponIn]at h ⊢
   case value u=>exact⟨keep a hy u,by rw[<-Act.put_comm a v u h2];exact h⟩
   case skip=>exact⟨keep a hy _,by rw[<-Act.put_comm a v undef h2];exact h⟩
   case defer d=>
    refine⟨keep _ (keepD d) _,?_⟩;rw[<-Act.put_comm _ v undef h2,<-Act.put_defers];exact h
   case enter f args=>
    refine⟨h.1,CallsIn.mono h.2 λe w'' he=>?_⟩;cases e with
    |returned u=>exact⟨keep a hy u,by rw[<-Act.put_comm a v u h2];exact he⟩
    |panicked c=>exact hQ _ _ _ he
    |outgrown=>exact he
   case row row args=>exact⟨h.1,RowsIn.mono h.2 λu w'' he=>⟨keep a hy u,by rw[<-Act.put_comm a v u h2];exact he⟩⟩
   case round l f tmps assign body=>
    refine⟨h.1,RoundIn.mono h.2 λe w'' he=>?_⟩;cases e with
    |returned u=>exact⟨keep a hy u,by rw[<-Act.put_comm a v u h2];exact he⟩
    |panicked c=>exact hQ _ _ _ he
    |outgrown=>exact he
  |halt x w'=>
   cases x<;>simp only[Oper.uponIn]at h ⊢
   case panic u=>exact hQ _ _ _ h
 ·rename_i hw
  simp only[hw]at h;exact⟨h.1,keep a hy _,by rw[<-Act.put_comm a v undef h2];exact h.2⟩
def yI(n:Nat)(P:Program)(c:Region.Mode)(b:Array Oper)(Q:Exit->Act->World->Prop)(d:World->Prop)(e:List Nat):Nat->Array Bool->Act->World->Prop
 |0,listed,a,w=>Region.ready c b listed=[]/\Q .normal a w
 |fuel+1,listed,a,w=>
  (Region.ready c b listed=[]->Q .normal a w)/\
  ∀i∈Region.ready c b listed,wpOpIn Fence.wide n P b Q i (λf w'=>(i ∉ e->d w')/\yI n P c b Q d e fuel (listed.setIfInBounds i true) f w') a w
theorem ey:∀(b:Nat) (c:Array Bool) (a:Act) (w:World),yI n P md ops Q S E b c a w->wpAnyIn Fence.wide n P md ops Q b c a w
 |0,_,_,_,h=>h
 |b+1,_,_,_,h=>⟨h.1,λi f=>wpOpIn_mono (λe w' d=>ey b _ e w' d.2) (h.2 i f)⟩
theorem ez{i:Nat}{f:Oper}{v:Value}(r:ops[i]? =W f)(x:∀(j:Nat) (o:Oper) m p,ops[j]? =W o->o.op≠.select m p)
(D:∀L a w,Q (.panic L) (a.put f.dst v) w->Q (.panic L) a w)(G:waits md ops E i=true):
 ∀(s:Nat) (b:Array Bool) (a:Act) (w:World),yS md ops b->
  (∀j d,ops[j]? =W d->j≠i->b.getD j true=false->(∀e∈d.after,Region.binds md e=true->e.on≠i)->f.apart ops d=true)->
  i∈Region.ready md ops b->YieldsIf P ops S f v a->S w->
  yI n P md ops Q S E s (b.setIfInBounds i true) (a.put f.dst v) w->yI n P md ops Q S E (s+1) b a w
 |0,b,a,w,_,_,hr,hy,hS,H=>by
  refine⟨λy=>(by rw[y]at hr;cases hr),λj g=>?_⟩;by_cases c:j=i
  ·rw[c];exact jB r hy hS ⟨λ_=>hS,H⟩
  ·have:=ready_mono g c
   rw[H.1]at this;cases this
 |s+1,b,a,w,hc,hfree,hr,hy,hS,H=>by
  refine⟨λy=>(by rw[y]at hr;cases hr),λj g=>?_⟩;by_cases c:j=i
  ·rw[c];exact jB r hy hS ⟨λ_=>hS,H⟩
  ·have z:=jE hc G g hr
   obtain⟨F,d,t,an⟩:=mem_ready.1 g;have M:∀e∈d.after,Region.binds md e=true->e.on≠i:=λe ao R T=>by
    have l:=an e ao R;have A:=(mem_ready.1 hr).1;rw[T]at l;rcases Nat.lt_or_ge i b.size with u|u
    ·simp[u]at A l;rw[A]at l;cases l
    ·simp[Array.getElem?_eq_none u]at l
   refine wpOpIn_mono (λab w' q=>⟨λ_=>q.2.1 z,ez r x D G s (b.setIfInBounds j true) ab w' (eu hc g) (λk ac X N ad al=>?_) (ready_mono hr (Ne.symm c)) q.1 (q.2.1 z) ?_⟩)
    (jC t (hfree j d t c F M) (λm p=>x i f m p r) (λm p=>x j d m p t) D hy (H.2 j (ready_mono g c)))
   ·refine hfree k ac X N ?_ al
    by_cases C:j=k
    ·exact C ▸ F
    ·rwa [getD_set_ne true C]at ad
   ·rw[Array.setIfInBounds_comm _ _ c]
    exact q.2.2
theorem fV(l:Region.noSelect ops=true)(m:∀e a (k:Option Tmp × Value) w,Q (.panic e) (a.put k.1 k.2) w->Q (.panic e) a w){w:World}(g:S w)(f:Nat):∀(c:List Nat) (b:Array Bool) (a:Act),zj md ops E c b=true->
 xT P ops S c a (λp=>yI n P md ops Q S E f (Ab c b) p w)->yI n P md ops Q S E (f+c.length) b a w
 | [],b,a,_,d=>d
 |i::c,b,a,hk,d=>by
  unfold zj at hk;rw[zQ,zQ,zQ,zQ]at hk;obtain⟨r,v,j,o,q⟩:=d;exact ez j (Region.noSelect_spec l) (λe a w d=>m e a (_,_) w d) hk.1.2 _ b a w (gu hk.1.1.1.1) (Region.free_spec j hk.1.1.1.2) (by simpa using hk.1.1.2) o g (fV l m g f c _ _ hk.2 q)
def yj(n:Nat)(P:Program)(g:Region.Mode)(c:Array Oper)(Q:Exit->Act->World->Prop)(b:World->Prop)(d:List Nat)(e:Nat)(j:Array Bool)(a:Act)(w:World)(f:List Nat):Prop:=
 ∀i∈f,wpOpIn Fence.wide n P c Q i (λk w'=>(i ∉ d->b w')/\yI n P g c Q b d e (j.setIfInBounds i true) k w') a w
theorem dQ(b:List Nat){d:Nat}{c:Array Bool}{a:Act}{w:World}(e:Region.ready md ops c=b)(f:b≠[])(g:yj n P md ops Q S E d c a w b):yI n P md ops Q S E (d+1) c a w:=
 ⟨λi=>absurd (e ▸ i) f,e ▸ g⟩
theorem rD{c:Array Bool}{a:Act}{w:World}(e:Region.ready md ops c=[])(d:Q .normal a w):∀b:Nat,yI n P md ops Q S E b c a w
 |0=>⟨e,d⟩
 |b+1=>⟨λ_=>d,by rw[e];intro i f;cases f⟩
theorem yj.nil{b:Nat}{c:Array Bool}{a:Act}{w:World}:yj n P md ops Q S E b c a w []:=λ_ d=>by cases d
theorem yj.cons{c:Nat}{d:Array Bool}{a:Act}{w:World}{i:Nat}{o:Oper}{f:List Nat}(k:ops[i]? =W o)(l:Region.wanted o (yielded ops a.tmps)=true)
(m:∀b:Act->World->Prop,Shut (∀a w,(i ∉ E->S w)->yI n P md ops Q S E c (d.setIfInBounds i true) a w->b a w)->Oper.wpIn Fence.wide n P o a w b Q)
(r:yj n P md ops Q S E c d a w f):yj n P md ops Q S E c d a w (i::f):=λj e=>by
 rcases List.mem_cons.1 e with rfl|e
 ·exact wpOpIn_step k (λb q=>by rw[if_pos l];exact m b (λa w p g=>q a w ⟨p,g⟩))
 ·exact r j e
theorem jz{i:Nat}{c:List Nat}{a:Act}{K:Act->Prop}{b:Oper}{v:Value}{d:Option Tmp}(j:ops[i]? =W b)(e:b.dst=d)(f:Region.wanted b (yielded ops a.tmps)=true)(k:∀w,S w->(execOp a.eval b).run P w=.ok (.value v) w)(g:xT P ops S c (a.put d v) K):xT P ops S (i::c) a K:=by subst e;exact⟨b,v,j,.inl ⟨f,k⟩,g⟩
theorem ax{i:Nat}{c:List Nat}{a:Act}{K:Act->Prop}{b:Oper}{v:Value}{d:Option Tmp}(k:∀w,S w->(execOp a.eval b).run P w=.ok (.value v) w)(g:xT P ops S c (a.put d v) K)(j:ops[i]? =W b:=by exact rfl)(e:b.dst=d:=by simp only[zH,zI,zJ];rfl)(f:Region.wanted b (yielded ops a.tmps)=true:=by kernel_rfl):xT P ops S (i::c) a K:=jz j e f k g
theorem Ei{i:Nat}{e:List Nat}{a:Act}{K:Act->Prop}{b:Oper}{v:Value}{d:Option Tmp}(j:xT P ops S e (a.put d v) K)(k:ops[i]? =W b:=by exact rfl)(f:b.dst=d:=by simp only[zH,zI,zJ];rfl)(g:Region.wanted b (yielded ops a.tmps)=true:=by kernel_rfl)(l:∀w,S w->(execOp a.eval b).run P w=.ok (.value v) w:=by (intro m c;(try dsimp only at c);(repeat (obtain⟨_,c⟩:=c));go_simp;try with_reducible rfl)):xT P ops S (i::e) a K:=jz k f g l j
theorem aB{i:Nat}{c:List Nat}{a:Act}{K:Act->Prop}{b:Oper}{d:Option Tmp}(j:ops[i]? =W b)(e:b.dst=d)(f:Region.wanted b (yielded ops a.tmps)=false)(g:xT P ops S c (a.put d undef) K):xT P ops S (i::c) a K:=by subst e;exact⟨b,undef,j,.inr ⟨f,rfl⟩,g⟩
theorem cK{b:Nat}{a:Act}{w:World}(d:World->Prop)(f:List Nat)(c:P.follows .mixedOrders=true)
(e:yI n P .any ops Q d f ops.size (Array.replicate ops.size false) a w.drew):(Code.region b ops true).wpIn Fence.wide n P Q a w:=
 wpIn_region_any c (ey _ _ _ _ e)
end
end
def Az(s:ByteArray)(p d:Nat):Bool:=decide (s.size<=p)||y7 s p||(yC s p [58]&&Tp.closed d (s.data.toList.drop (p+1)))||(decide (0 < d)&&yC s p [44,91,93,123,125])
theorem bN{w w':World}(a:Below w.drew.heap.size w.drew w'):Below w.heap.size w w':=(ζ w.heap.size w).drew.trans a
theorem uI(x a:Int)(b:World):(binOp .gtr 3 (V I x) (V I a)).run π b=.ok (β (decide (a < x))) b:=by
 simp[go_sem]
theorem oB(w:World)(a:List UInt8)(T:TypeId)(b:Nat × Nat)(g:Nat)(c:g=w.heap.size):RA (w.alloc (J (a.map byV).toArray T b)) (W ⟨g,0,O⟩) g 0 (a.map byV):=by subst c;exact qB w a T b
theorem rm(j:Nat)(s:ByteArray)(p d:Nat)(a1:p<=100000)(a3:s.size<=100000)(al:yC s p [58]=true->Tp.closed d (s.data.toList.drop (p+1))=true)(w:World)(n:yb w j s p d):
 Calls π 266 #[Z (W ⟨j,0,O⟩)] w λe w'=>e=ρ (β (Az s p d))/\Below w.heap.size w w':=by
 have t:=lt_of_heap n;have z:=zF n 0 rfl;have u:=zF n 1 rfl;have v:=zF n 2 rfl;have M:=im j s p d (by omega) (by omega);have L:=λl g n E=>cO j s p d p 0 (by omega) (by omega) (by omega) [58] g 1 rfl (by omega) l n E;have R:=bT j s p d (p+1) 1 (by omega) (by omega) (by omega);have H:=λl g n E=>cO j s p d p 0 (by omega) (by omega) (by omega) [44,91,93,123,125] g 5 rfl (by omega) l n E;have y:=λl=>Lib.run_convert_bytes_const (P:=π) l 36 5 #[V .u8 44,V .u8 91,V .u8 93,V .u8 123,V .u8 125] 5 5 underlying36 underlying5;rw[show (#[V .u8 44,V .u8 91,V .u8 93,V .u8 123,V .u8 125]:Array Value).size=5 from rfl]at y;have a0:yC s p [58]=true->yC s p [44,91,93,123,125]=false:=by
  unfold yC;cases s.data.toList[p]? with
  |none=>intro f;cases f
  |some c=>intro f;simp at f;subst f;decide
 unfold Az;generalize y7 s p=ac at *;generalize yC s p [58]=I at *;generalize Tp.closed d (s.data.toList.drop (p+1))=X at *;generalize yC s p [44,91,93,123,125]=a2 at *;obtain⟨o,x,C,ao,ab⟩:=zx5 n M L R H;clear n M L R H;have F:=λl=>uJ (p:Int) (s.size:Int) l;by_cases N:s.size<=p
 ·rw[decide_eq_true N]
  rw[decide_eq_true (by omega:(s.size:Int)<=(p:Int))]at F
  go_enter func266,ntmps266
  go_wp2_with fail
  go_quiet (fail)
  go_wp2_with fail
  go_ret
  exact⟨by simp[Act.put],bM (ζ _ _) _⟩
 rw[decide_eq_false N];rw[decide_eq_false (by omega:¬(s.size:Int)<=(p:Int))]at F;have ad:d=0\/0 < d:=by omega
 cases ac with
 |true=>
  go_enter func266,ntmps266
  go_upto_region 1 with (fail)
  refine wp_region_noPanic ?_;refine ar (λw'=>w'.cell? ⟨j,0,O⟩=W (U s)/\w'.cell? ⟨j,1,O⟩=W (V .i64 (p:Int))/\w'.cell? ⟨j,2,O⟩=W (V .i64 (d:Int))) [] (by kernel_rfl) ?_;refine ay 20 (by kernel_rfl) (λ_ _ _ _ f=>f) (by exact⟨z,u,v⟩) 29 [0,1,2,3,4,5,6,7,8,9,10,11,12,13,14,15] _ _ (by kernel_rfl) ?_;iterate 16 (refine Ei ?_;(try go_frame))
  refine xT.done ?_;try dsimp only
  refine aq [16] ?_;refine aj rfl (λK b=>?_) xQ.nil
  go_simp
  refine(x.out w.drew o.out).mono ?_;rintro e i ⟨rfl,m⟩;have k:Below w.heap.size w i:=bN m;have a:=zD (yb.below (w:=w) o.out k t);clear m;refine b.out _ _ (λ_=>(by exact⟨ae (a.out) 0,ae (a.out) 1,ae (a.out) 2⟩)) ?_;clear b K
  (try go_frame)
  refine ay 20 (by kernel_rfl) (λ_ _ _ _ f=>f) (by exact⟨ae (a.out) 0,ae (a.out) 1,ae (a.out) 2⟩) 0 [17,18,19,20,21,22,23,24,25,26,27,28,29,30,31,32,33,34,35,36,37,38,39,40,41,42,43,44] _ _ (by kernel_rfl) ?_;iterate 2 (refine Ei ?_;(try go_frame))
  iterate 9 (refine aB rfl (by simp only[zH,zI,zJ];rfl) (by kernel_rfl) ?_;(try go_frame))
  iterate 2 (refine Ei ?_;(try go_frame))
  iterate 13 (refine aB rfl (by simp only[zH,zI,zJ];rfl) (by kernel_rfl) ?_;(try go_frame))
  iterate 2 (refine Ei ?_;(try go_frame))
  refine xT.done ?_;try dsimp only
  refine aP (by kernel_rfl) (NoPanic.normal ?_) _
  go_wp2_with fail
  go_ret
  exact⟨by simp[Act.put],k⟩
 |false=>
 cases I with
 |true=>
  have an:=a0 rfl;subst an;cases X with
  |true=>
  go_enter func266,ntmps266
  go_upto_region 1 with (fail)
  refine wp_region_noPanic ?_;refine ar (λw'=>w'.cell? ⟨j,0,O⟩=W (U s)/\w'.cell? ⟨j,1,O⟩=W (V .i64 (p:Int))/\w'.cell? ⟨j,2,O⟩=W (V .i64 (d:Int))) [] (by kernel_rfl) ?_;refine ay 20 (by kernel_rfl) (λ_ _ _ _ f=>f) (by exact⟨z,u,v⟩) 29 [0,1,2,3,4,5,6,7,8,9,10,11,12,13,14,15] _ _ (by kernel_rfl) ?_;iterate 16 (refine Ei ?_;(try go_frame))
  refine xT.done ?_;try dsimp only
  refine aq [16] ?_;refine aj rfl (λK b=>?_) xQ.nil
  go_simp
  refine(x.out w.drew o.out).mono ?_;rintro e i ⟨rfl,m⟩;have k:Below w.heap.size w i:=bN m;have a:=zD (yb.below (w:=w) o.out k t);clear m;refine b.out _ _ (λ_=>(by exact⟨ae (a.out) 0,ae (a.out) 1,ae (a.out) 2⟩)) ?_;clear b K
  (try go_frame)
  refine ay 20 (by kernel_rfl) (λ_ _ _ _ f=>f) (by exact⟨ae (a.out) 0,ae (a.out) 1,ae (a.out) 2⟩) 23 [17,18,19,20,21] _ _ (by kernel_rfl) ?_;iterate 5 (refine Ei ?_;(try go_frame))
  refine xT.done ?_;try dsimp only
  refine aq [22] ?_;refine aj rfl (λK b=>?_) xQ.nil
  go_simp
  refine b.out _ _ (λ_=>(by exact⟨ae (aa (J #[V .u8 58] 5) a.out) 0,ae (aa (J #[V .u8 58] 5) a.out) 1,ae (aa (J #[V .u8 58] 5) a.out) 2⟩)) ?_;clear b K
  (try go_frame)
  refine aq [23] ?_;refine aj rfl (λK b=>?_) xQ.nil
  go_simp
  refine(C.out (i.alloc (J #[V .u8 58] 5)) i.heap.size (aa _ a.out) (eC i [58] 5)).mono ?_;rintro e G ⟨rfl,rfl⟩;have r:=y (i.alloc (J #[V .u8 58] 5));rw[show (i.alloc (J #[V .u8 58] 5)).heap.size=i.heap.size+1 by simp]at r;refine b.out _ _ (λ_=>(by exact⟨ae (aa (J #[V .u8 58] 5) a.out) 0,ae (aa (J #[V .u8 58] 5) a.out) 1,ae (aa (J #[V .u8 58] 5) a.out) 2⟩)) ?_;clear b K
  (try go_frame)
  refine ay 20 (by kernel_rfl) (λ_ _ _ _ f=>f) (by exact⟨ae (aa (J #[V .u8 58] 5) a.out) 0,ae (aa (J #[V .u8 58] 5) a.out) 1,ae (aa (J #[V .u8 58] 5) a.out) 2⟩) 19 [24,25] _ _ (by kernel_rfl) ?_;iterate 2 (refine Ei ?_;(try go_frame))
  refine xT.done ?_;try dsimp only
  refine aq [26] ?_;refine aj rfl (λK b=>?_) xQ.nil
  go_simp
  refine(ao.out _ (aa _ a.out)).mono ?_;rintro e wx ⟨rfl,D⟩;have q:=zD (yb.below (show yb (i.alloc (J #[V .u8 58] 5)) j s p d from aa _ a.out) D (by have:=lt_of_heap a.out;simp;omega));have T:=(k.alloc k.size (J #[V .u8 58] 5)).trans (D.mono (by have:=k.size;simp;omega));clear D;refine b.out _ _ (λ_=>(by exact⟨ae (q.out) 0,ae (q.out) 1,ae (q.out) 2⟩)) ?_;clear b K
  (try go_frame)
  refine ay 20 (by kernel_rfl) (λ_ _ _ _ f=>f) (by exact⟨ae (q.out) 0,ae (q.out) 1,ae (q.out) 2⟩) 0 [27,28,29,30,31,32,33,34,35,36,37,38,39,40,41,42,43,44] _ _ (by kernel_rfl) ?_;iterate 3 (refine Ei ?_;(try go_frame))
  iterate 13 (refine aB rfl (by simp only[zH,zI,zJ];rfl) (by kernel_rfl) ?_;(try go_frame))
  iterate 2 (refine Ei ?_;(try go_frame))
  refine xT.done ?_;try dsimp only
  refine aP (by kernel_rfl) (NoPanic.normal ?_) _
  go_wp2_with fail
  go_ret
  exact⟨by simp[Act.put],T⟩
  |false=>exact absurd (al rfl) (by decide)
 |false=>
  rcases ad with S|S
  ·have A:=λl=>uI (d:Int) 0 l
   rw[show decide ((0:Int) < (d:Int))=false by simp;omega]at A;rw[show decide (0 < d)=false by simp;omega]
   go_enter func266,ntmps266
   go_upto_region 1 with (fail)
   refine wp_region_noPanic ?_;refine ar (λw'=>w'.cell? ⟨j,0,O⟩=W (U s)/\w'.cell? ⟨j,1,O⟩=W (V .i64 (p:Int))/\w'.cell? ⟨j,2,O⟩=W (V .i64 (d:Int))) [] (by kernel_rfl) ?_;refine ay 20 (by kernel_rfl) (λ_ _ _ _ f=>f) (by exact⟨z,u,v⟩) 29 [0,1,2,3,4,5,6,7,8,9,10,11,12,13,14,15] _ _ (by kernel_rfl) ?_;iterate 16 (refine Ei ?_;(try go_frame))
   refine xT.done ?_;try dsimp only
   refine aq [16] ?_;refine aj rfl (λK b=>?_) xQ.nil
   go_simp
   refine(x.out w.drew o.out).mono ?_;rintro e i ⟨rfl,m⟩;have k:Below w.heap.size w i:=bN m;have a:=zD (yb.below (w:=w) o.out k t);clear m;refine b.out _ _ (λ_=>(by exact⟨ae (a.out) 0,ae (a.out) 1,ae (a.out) 2⟩)) ?_;clear b K
   (try go_frame)
   refine ay 20 (by kernel_rfl) (λ_ _ _ _ f=>f) (by exact⟨ae (a.out) 0,ae (a.out) 1,ae (a.out) 2⟩) 23 [17,18,19,20,21] _ _ (by kernel_rfl) ?_;iterate 5 (refine Ei ?_;(try go_frame))
   refine xT.done ?_;try dsimp only
   refine aq [22] ?_;refine aj rfl (λK b=>?_) xQ.nil
   go_simp
   refine b.out _ _ (λ_=>(by exact⟨ae (aa (J #[V .u8 58] 5) a.out) 0,ae (aa (J #[V .u8 58] 5) a.out) 1,ae (aa (J #[V .u8 58] 5) a.out) 2⟩)) ?_;clear b K
   (try go_frame)
   refine aq [23] ?_;refine aj rfl (λK b=>?_) xQ.nil
   go_simp
   refine(C.out (i.alloc (J #[V .u8 58] 5)) i.heap.size (aa _ a.out) (eC i [58] 5)).mono ?_;rintro e G ⟨rfl,rfl⟩;have r:=y (i.alloc (J #[V .u8 58] 5));rw[show (i.alloc (J #[V .u8 58] 5)).heap.size=i.heap.size+1 by simp]at r;refine b.out _ _ (λ_=>(by exact⟨ae (aa (J #[V .u8 58] 5) a.out) 0,ae (aa (J #[V .u8 58] 5) a.out) 1,ae (aa (J #[V .u8 58] 5) a.out) 2⟩)) ?_;clear b K
   (try go_frame)
   refine ay 20 (by kernel_rfl) (λ_ _ _ _ f=>f) (by exact⟨ae (aa (J #[V .u8 58] 5) a.out) 0,ae (aa (J #[V .u8 58] 5) a.out) 1,ae (aa (J #[V .u8 58] 5) a.out) 2⟩) 0 [24,25,26,27,28,29,30,31,32,33,34,35,36,37,38,39,40,41,42,43,44] _ _ (by kernel_rfl) ?_;iterate 1 (refine Ei ?_;(try go_frame))
   iterate 2 (refine aB rfl (by simp only[zH,zI,zJ];rfl) (by kernel_rfl) ?_;(try go_frame))
   iterate 9 (refine Ei ?_;(try go_frame))
   iterate 6 (refine aB rfl (by simp only[zH,zI,zJ];rfl) (by kernel_rfl) ?_;(try go_frame))
   iterate 3 (refine Ei ?_;(try go_frame))
   refine xT.done ?_;try dsimp only
   refine aP (by kernel_rfl) (NoPanic.normal ?_) _
   go_wp2_with fail
   go_ret
   exact⟨by simp[Act.put],k.alloc k.size _⟩
  ·have A:=λl=>uI (d:Int) 0 l
   rw[show decide ((0:Int) < (d:Int))=true by simp;omega]at A;rw[show decide (0 < d)=true by simp;omega]
   go_enter func266,ntmps266
   go_upto_region 1 with (fail)
   refine wp_region_noPanic ?_;refine ar (λw'=>w'.cell? ⟨j,0,O⟩=W (U s)/\w'.cell? ⟨j,1,O⟩=W (V .i64 (p:Int))/\w'.cell? ⟨j,2,O⟩=W (V .i64 (d:Int))) [] (by kernel_rfl) ?_;refine ay 20 (by kernel_rfl) (λ_ _ _ _ f=>f) (by exact⟨z,u,v⟩) 29 [0,1,2,3,4,5,6,7,8,9,10,11,12,13,14,15] _ _ (by kernel_rfl) ?_;iterate 16 (refine Ei ?_;(try go_frame))
   refine xT.done ?_;try dsimp only
   refine aq [16] ?_;refine aj rfl (λK b=>?_) xQ.nil
   go_simp
   refine(x.out w.drew o.out).mono ?_;rintro e i ⟨rfl,m⟩;have k:Below w.heap.size w i:=bN m;have a:=zD (yb.below (w:=w) o.out k t);clear m;refine b.out _ _ (λ_=>(by exact⟨ae (a.out) 0,ae (a.out) 1,ae (a.out) 2⟩)) ?_;clear b K
   (try go_frame)
   refine ay 20 (by kernel_rfl) (λ_ _ _ _ f=>f) (by exact⟨ae (a.out) 0,ae (a.out) 1,ae (a.out) 2⟩) 23 [17,18,19,20,21] _ _ (by kernel_rfl) ?_;iterate 5 (refine Ei ?_;(try go_frame))
   refine xT.done ?_;try dsimp only
   refine aq [22] ?_;refine aj rfl (λK b=>?_) xQ.nil
   go_simp
   refine b.out _ _ (λ_=>(by exact⟨ae (aa (J #[V .u8 58] 5) a.out) 0,ae (aa (J #[V .u8 58] 5) a.out) 1,ae (aa (J #[V .u8 58] 5) a.out) 2⟩)) ?_;clear b K
   (try go_frame)
   refine aq [23] ?_;refine aj rfl (λK b=>?_) xQ.nil
   go_simp
   refine(C.out (i.alloc (J #[V .u8 58] 5)) i.heap.size (aa _ a.out) (eC i [58] 5)).mono ?_;rintro e G ⟨rfl,rfl⟩;have r:=y (i.alloc (J #[V .u8 58] 5));rw[show (i.alloc (J #[V .u8 58] 5)).heap.size=i.heap.size+1 by simp]at r;refine b.out _ _ (λ_=>(by exact⟨ae (aa (J #[V .u8 58] 5) a.out) 0,ae (aa (J #[V .u8 58] 5) a.out) 1,ae (aa (J #[V .u8 58] 5) a.out) 2⟩)) ?_;clear b K
   (try go_frame)
   refine ay 20 (by kernel_rfl) (λ_ _ _ _ f=>f) (by exact⟨ae (aa (J #[V .u8 58] 5) a.out) 0,ae (aa (J #[V .u8 58] 5) a.out) 1,ae (aa (J #[V .u8 58] 5) a.out) 2⟩) 6 [24,25,26,27,28,29,30,31,32,33,34,35,36,37,38] _ _ (by kernel_rfl) ?_;iterate 1 (refine Ei ?_;(try go_frame))
   iterate 2 (refine aB rfl (by simp only[zH,zI,zJ];rfl) (by kernel_rfl) ?_;(try go_frame))
   iterate 12 (refine Ei ?_;(try go_frame))
   refine xT.done ?_;try dsimp only
   refine aq [39] ?_;refine aj rfl (λK b=>?_) xQ.nil
   go_simp
   refine b.out _ _ (λ_=>(by exact⟨ae (aa (J #[V .u8 44,V .u8 91,V .u8 93,V .u8 123,V .u8 125] 5) (aa (J #[V .u8 58] 5) a.out)) 0,ae (aa (J #[V .u8 44,V .u8 91,V .u8 93,V .u8 123,V .u8 125] 5) (aa (J #[V .u8 58] 5) a.out)) 1,ae (aa (J #[V .u8 44,V .u8 91,V .u8 93,V .u8 123,V .u8 125] 5) (aa (J #[V .u8 58] 5) a.out)) 2⟩)) ?_;clear b K
   (try go_frame)
   refine aq [40] ?_;refine aj rfl (λK b=>?_) xQ.nil
   go_simp
   refine b.out _ _ (λ_=>(by exact⟨ae (aa (J #[V .u8 44,V .u8 91,V .u8 93,V .u8 123,V .u8 125] 5 (5,6)) (aa (J #[V .u8 58] 5) a.out)) 0,ae (aa (J #[V .u8 44,V .u8 91,V .u8 93,V .u8 123,V .u8 125] 5 (5,6)) (aa (J #[V .u8 58] 5) a.out)) 1,ae (aa (J #[V .u8 44,V .u8 91,V .u8 93,V .u8 123,V .u8 125] 5 (5,6)) (aa (J #[V .u8 58] 5) a.out)) 2⟩)) ?_;clear b K
   (try go_frame)
   refine aq [41] ?_;refine aj rfl (λK b=>?_) xQ.nil
   go_simp
   refine(ab.out ((i.alloc (J #[V .u8 58] 5)).alloc (J #[V .u8 44,V .u8 91,V .u8 93,V .u8 123,V .u8 125] 5 (5,6))) (i.heap.size+1) (aa _ (aa (J #[V .u8 58] 5) a.out)) (oB _ _ _ _ _ (by simp))).mono ?_;rintro e a4 ⟨rfl,rfl⟩;refine b.out _ _ (λ_=>(by exact⟨ae (aa (J #[V .u8 44,V .u8 91,V .u8 93,V .u8 123,V .u8 125] 5 (5,6)) (aa (J #[V .u8 58] 5) a.out)) 0,ae (aa (J #[V .u8 44,V .u8 91,V .u8 93,V .u8 123,V .u8 125] 5 (5,6)) (aa (J #[V .u8 58] 5) a.out)) 1,ae (aa (J #[V .u8 44,V .u8 91,V .u8 93,V .u8 123,V .u8 125] 5 (5,6)) (aa (J #[V .u8 58] 5) a.out)) 2⟩)) ?_;clear b K
   (try go_frame)
   refine ay 20 (by kernel_rfl) (λ_ _ _ _ f=>f) (by exact⟨ae (aa (J #[V .u8 44,V .u8 91,V .u8 93,V .u8 123,V .u8 125] 5 (5,6)) (aa (J #[V .u8 58] 5) a.out)) 0,ae (aa (J #[V .u8 44,V .u8 91,V .u8 93,V .u8 123,V .u8 125] 5 (5,6)) (aa (J #[V .u8 58] 5) a.out)) 1,ae (aa (J #[V .u8 44,V .u8 91,V .u8 93,V .u8 123,V .u8 125] 5 (5,6)) (aa (J #[V .u8 58] 5) a.out)) 2⟩) 0 [42,43,44] _ _ (by kernel_rfl) ?_;iterate 3 (refine Ei ?_;(try go_frame))
   refine xT.done ?_;try dsimp only
   refine aP (by kernel_rfl) (NoPanic.normal ?_) _
   go_wp2_with fail
   go_ret
   exact⟨by simp[Act.put],(k.alloc k.size _).alloc (k.alloc k.size (J #[V .u8 58] 5)).size _⟩
def AZ(X:Bool)(P:Program)(gf:Nat)(lb:Array Value)(m:Nat)(g:Nat)(k:Nat->Array Value)(i j:World->World->Prop)(n:World->Prop)(w:World):Prop:=
 ∀(l:Nat) (c:Nat->World->Prop) (d:World->Prop) (f:World),Below w.heap.size w f->w.heap.size+2<=f.heap.size->(∀t b a,c t b->i b a->c t a)->(∀b a,d b->i b a->d a)->(X=false->∀b,¬d b)->
  (∀t,t < g->∀b,c t b->YieldAt Fence.wide m P l (k t) b λe a=>(e=ρ (β true)/\c (t+1) a/\j b a)\/(e=ρ (β false)/\d a))->
  c 0 f->Calls P gf (#[φ (.yield l) #[] #[]]++lb) f λe a=>(∃v,e=ρ v)/\((c g a/\n a)\/d a)
def AG(e:World->Prop)(d:Code->World->Prop)(a:Nat)(c:World->World->Prop)(b:World):Exit->Act->World->Prop
 | .normal,_,W'=>e W'/\Far (λk=>k≠a/\k≠a+1) b W'/\c b W'
 | .ret,_,W'=>d .ret W'/\Far (λk=>k≠a/\k≠a+1) b W'/\c b W'
 | .exit id,_,W'=>d (.exit id) W'/\Far (λk=>k≠a/\k≠a+1) b W'/\c b W'
 | .goto t,_,W'=>d (.goto t) W'/\Far (λk=>k≠a/\k≠a+1) b W'/\c b W'
 | .panic _,_,_=>False
 | .outgrown,_,_=>False
section
attribute [local go_sem ↓] Go.wp_at_zero Go.wp_at_succ
def RS(c:Nat)(a b:World):Prop:=a.heap.size<=b.heap.size/\∀k x,k=c\/k=5->a.heap[k]? =W x->b.heap[k]? =W x
def zr(s:ByteArray)(t:Nat):ByteArray:=⟨((Ln.rows s.data.toList).getD t []).toArray⟩
theorem tl(s:ByteArray)(t:Nat)(a:ByteArray)(b:(Ln.rows s.data.toList).drop t=Ln.rows a.data.toList)(d:a.size≠0):t < (Ln.rows s.data.toList).length:=by
 by_cases c:t < (Ln.rows s.data.toList).length
 ·exact c
 ·rw[List.drop_eq_nil_of_le (by omega)]at b
  exact absurd b.symm (Ln.me _ (by intro e;have:=ap a;rw[e]at this;simp at this;omega))
theorem ov(s:ByteArray)(cb:s.size<=1000000)(l c:Nat)(g:Nat->World->Prop)(X:World->Prop)
(ab:∀t d f,g t d->Far (·=c) d f->g t f)
(v:∀t,t < (Ln.rows s.data.toList).length->∀d,g t d->YieldAt Fence.wide 3 π l #[V I ((t:Int)+1),γ #[U (zr s t)]] d λe f=>(e=ρ (β true)/\g (t+1) f/\RS c d f)\/(e=ρ (β false)/\X f))
(d:World)(a6:d.heap[c]? =W (J #[U s] 9 (0,0)))(ba:c≠5)(m:Int)(q:Obj)(bq:d.heap[5]? =W q)(ad:∀wx:World,wx.heap[5]? =W q->wx.cell? ⟨5,0,O⟩=W (V I m))(b1:g 0 d):
 Calls π 99 #[φ (.yield l) #[] #[],Z (W ⟨c,0,O⟩)] d λe f=>e=ρ (.tuple #[])/\(g (Ln.rows s.data.toList).length f\/X f):=by
 obtain⟨j,S⟩:∃j,(Ln.rows s.data.toList).length=j:=⟨_,rfl⟩;obtain⟨a0,b5,bw,D⟩:=zx4 ab ad v S;rw[S];clear ab v S ad;have cm:j<=1000000:=by
  have:=Ln.dD s.data.toList;rw[D.out,ap]at this;omega
 go_enter func99,ntmps99
 go_wp2_with fail
 go_step3
 go_wp2_with fail
 go_step3
 go_wp2_with fail
 go_loopw [3,4,5,6] (λa _ _ _ wr=>∃(t:Nat) (b:ByteArray),a=V I ((t:Int)+1)/\wr.heap[c]? =W (J #[U b] 9 (0,0))/\(Ln.rows s.data.toList).drop t=Ln.rows b.data.toList/\b.size<=s.size/\t<=j/\wr.heap[5]? =W q/\g t wr) (λa _ _ _ _=>j+1 - (Lib.intOf a).toNat)
 case atStart=>exact⟨0,s,rfl,a6,rfl,η _,z_ _,bq,b1⟩
 case round=>
  obtain⟨t,b,rfl,N,i,ca,cf,P,L⟩:=hrel;have bD:=zF N 0 rfl;by_cases bk:b.size=0
  ·have M:b.toList.isEmpty=true:=by
    rw[ByteArray.toList_eq];have:=ap b;cases bR:b.data.toList with
    |nil=>rfl
    |cons x u=>rw[bR]at this;simp at this;omega
   have r:b.data.toList=[]:=by rw[ByteArray.toList_eq]at M;simpa using M
   have bb:t=j:=by
    rw[r]at i;have e:=congrArg List.length i;rw[zZ,D.out]at e;simp only[Ln.rows,List.length_nil]at e;omega
   subst bb
   go_wp2_with fail
   rw[Exit.noGoto_normal]
   go_end0
   exact⟨rfl,.inl L⟩
  ·have r:b.data.toList≠[]:=by intro e;have:=ap b;rw[e]at this;simp at this;omega
   have M:b.toList.isEmpty=false:=by rw[ByteArray.toList_eq];simpa using r
   have hcut:=λw ao=>strings_Cut b ⟨#[10]⟩ m w (by omega) ao;have C:=Ln.nz b.data.toList r;have a1:=Ln.um b.data.toList r;have a2:=tl s t b i bk;rw[D.out]at a2;change ∀w ao,Calls π 100 #[U b,U ⟨#[10]⟩] w λe w'=>e=ρ (.tuple #[U ⟨(Lib.cut b.data.toList [10]).1.toArray⟩,U ⟨(Lib.cut b.data.toList [10]).2.1.toArray⟩,β (Lib.cut b.data.toList [10]).2.2])/\∃n,w'=w.drewN n at hcut
   obtain⟨o,G⟩:∃o:ByteArray,(⟨(Lib.cut b.data.toList [10]).1.toArray⟩:ByteArray)=o:=⟨_,rfl⟩;obtain⟨y,R⟩:∃o:ByteArray,(⟨(Lib.cut b.data.toList [10]).2.1.toArray⟩:ByteArray)=o:=⟨_,rfl⟩;have T:(Lib.cut b.data.toList [10]).2.1=y.data.toList:=by rw[<-R]
   have ac:(Lib.cut b.data.toList [10]).1=o.data.toList:=by rw[<-G]
   simp only[G,R]at hcut;rw[T]at a1 C;rw[ac]at C;generalize (Lib.cut b.data.toList [10]).2.2=k at hcut;rw[C]at i;have av:zr s t=o:=by
    unfold zr;have e:=congrArg (λx=>x[0]?) i;simp only[List.getElem?_drop,Nat.add_zero,List.getElem?_cons_zero]at e;rw[zY,e];rfl
   have a5:(Ln.rows s.data.toList).drop (t+1)=Ln.rows y.data.toList:=by
    have e:=congrArg List.tail i
    simpa [List.tail_drop]using e
   rw[ap,ap]at a1;obtain⟨bx,bs,a9⟩:=zx3 hcut av a5;clear hcut av a5 i C T ac G R r
   go_wp2_with fail
   refine(bx.out wr (b5.out wr P)).mono ?_;rintro e E ⟨rfl,n,A⟩;have al:Far (·=c) wr E:=by rw[A];exact(ξ _ _).drewN n
   have b0:=a0.out t _ _ L al;have b8:E.heap[c]? =W (J #[U b] 9 (0,0)):=by rw[A];exact N
   have b4:E.heap[5]? =W q:=by rw[A];exact P
   clear A al L P bD N
   go_upto_region 4 with (fail)
   refine(wpIn_wide (n:=4)).1 ?_;have v:=bw.out t (by rw[D.out];exact a2) E b0;rw[bs.out]at v;obtain⟨cl,ch,assign,body,b9,a4⟩:=v;have b3:=zD a4;clear a4
   gi_wp2
   refine(b3.out).mono ?_;rintro e z (⟨rfl,a3,H⟩|⟨rfl,bm⟩)
   ·have F:z.heap[c]? =W (J #[U b] 9 (0,0)):=H.2 c _ (.inl rfl) b8
    have b2:z.heap[5]? =W q:=H.2 5 _ (.inr rfl) b4;have c3:=zF F 0 rfl;have cc:=ag F 0;have be:(z.setCell ⟨c,0,O⟩ (U y)).heap[5]? =W q:=(Below.heap_setCell _ _ _ _ (by show 5≠c;exact λe=>ba e.symm)).trans b2;have an:=a0.out (t+1) _ _ a3 ((ξ (·=c) z).setCell (p:=⟨c,0,O⟩) (λ_=>rfl) (U y));have ck:IntKind.i64.wrap ((t:Int)+1+1)=(t:Int)+1+1:=zU _ (by omega);obtain⟨b6,bn⟩:=zx2 an F;clear an a3 H F
    gi_wp2
    go_wp2_with fail
    go_roundw
    case rel=>exact⟨t+1,y,by simp,ai bn.out 0 _,a9.out,by omega,by omega,be,b6.out⟩
    case measure=>
     simp[Lib.intOf]
     omega
   ·gi_wp2
    go_wp2_with fail
    rw[Exit.noGoto_normal]
    go_end0
    exact⟨rfl,.inr bm⟩
theorem ui(args:Array Value)(w:World):(callFunc 99 args).run π w=.ok (.enter 99 args) w:=by kernel_rfl
theorem tn(s:ByteArray)(w:World):Calls π 70 #[U s] w λe w'=>e=ρ (φ (.func 99) #[] #[Z (W ⟨w.heap.size,0,O⟩)])/\w'=w.alloc (J #[U s] 9):=by
 go_enter func70,ntmps70
 go_wp2
 go_ret
 exact⟨rfl,rfl⟩
theorem qs(s:ByteArray)(v:s.size<=1000000)(b:Nat)(w:World)(f:w.heap[b]? =W (J #[U s] 9 (0,0)))(k:b≠5)(m:Int)(y:w.cell? ⟨5,0,O⟩=W (V I m))(g:5 < w.heap.size):
 AZ true π 99 #[Z (W ⟨b,0,O⟩)] 3 (Ln.rows s.data.toList).length (λt=>#[V I ((t:Int)+1),γ #[U (zr s t)]]) (Far (·=b)) (RS b) (λ_=>True) w:=by
 intro l r n p d A u C _ q j;obtain⟨z,i⟩:∃o,w.heap[5]? =W o:=⟨_,Array.getElem?_eq_getElem g⟩;refine(ov s v l b r n u q p ((d.block _ (lt_of_heap f)).trans f) k m z ((d.block _ g).trans i) (λwx x=>(World.cell?_of_block (w:=w) (a:=⟨5,0,O⟩) (x.trans i.symm)).trans y) j).mono ?_;rintro e D ⟨rfl,c⟩;refine⟨⟨_,rfl⟩,?_⟩;rcases c with c|c
 ·exact .inl ⟨c,trivial⟩
 ·exact .inr c
end
section
attribute [local go_sem ↓] Go.wp_at_zero Go.wp_at_succ
attribute [local go_sem] ak
theorem vJ{D:NS}{a b:World}(c:Below a.heap.size a b):Far D a b:=(ξ _ a).below c
theorem wT(s:ByteArray)(d:∀a∈s.data.toList,a.toNat < 128)(i:Nat)(a:UInt8)(c:s.data.toList[i]? =W a):Utf8.decode s i=(a.toNat,1):=by
 rw[aX];obtain⟨b,rfl⟩:=zM.1 c;rw[zW b];exact Ln.aM _ _ (d _ (List.getElem_mem b))
theorem ix(w:World)(k:Nat)(s:ByteArray)(q:Nat):Far (·=k) w (w.iterAt k s q):=by
 refine⟨rfl,rfl,rfl,by rw[Lib.iterAt_size];exact η _,λi b a=>?_⟩;simp only[World.iterAt];rw[Array.getElem?_setIfInBounds_ne (λe=>a e.symm)]
def AQ(s:ByteArray)(t:Nat)(v:Array Value)(c:NS)(_:World):Prop:=(∃(b:UInt8) (a d:Int),s.data.toList[t]? =W b/\v=#[V .i32 (b.toNat:Int),γ #[V .i32 a,V .i32 d]])/\c=xO
theorem qK(s:ByteArray)(w:World):Calls π 307 #[U s] w λe w'=>e=ρ (φ (.func 320) #[] #[Z (W ⟨w.heap.size,0,O⟩)])/\w'=w.alloc (J #[U s] 9):=by
 go_enter func307,ntmps307
 go_wp2
 go_ret
 exact⟨rfl,rfl⟩
theorem rW(args:Array Value)(w:World):(callFunc 320 args).run π w=.ok (.enter 320 args) w:=by kernel_rfl
theorem oM(s:ByteArray)(db:s.size<=100000)(ch:∀g∈s.data.toList,g.toNat < 128)(b0:s.size≠0)(d:Nat)(w:World)(v:w.heap[d]? =W (.cells #[U s] 9 (0,0))):
 yQ π 320 #[Z (W ⟨d,0,O⟩)] 3 s.size (AQ s) (·=d) xO True (λ_ _=>True) (λ_=>True) w:=by
 intro l J c4 A f bb b1 hF0 T av bs ba al
 replace v:=(bb.block _ (lt_of_heap v)).trans v
 obtain⟨base,a6⟩:∃b5,w.heap.size=b5:=⟨_,rfl⟩;rw[a6]at T av;have bq:∀k,A k->k≠f.heap.size/\k≠d:=λk b=>⟨λe=>by have:=(bs 0 A f al).2 trivial k b;omega,(hF0 k b).1⟩;have c0:base<=f.heap.size:=by omega
 have c2:∀dg:World,True:=λ_=>trivial;have df:s.toList.isEmpty=false:=by
  rw[ByteArray.toList_eq];have:=ap s;cases cm:s.data.toList with
  |nil=>rw[cm]at this;simp at this;omega
  |cons x u=>rfl
 obtain⟨bn,co,bk,a4,an⟩:=zx5 T av ba bq v;have R:=zF v 0 rfl;clear T av ba bq v bs hF0 bb b1 a6 c2
 go_enter func320,ntmps320
 go_wp2_with fail
 go_step3
 go_wp2_with fail
 go_step3
 go_wp2_with fail
 obtain⟨c,G⟩:∃c,f.heap.size=c:=⟨_,rfl⟩;have cT:Far (y8 (·=d) A base) f (f.iter s 0):=(ξ _ f).alloc _;have cl:(f.iter s 0).heap[c]? =W (.stringIter s 0):=by rw[<-G];exact World.iter_heap f s 0
 have b2:=bn.out 0 A _ _ al cT;have b4:(f.iter s 0).heap[d]? =W (.cells #[U s] 9 (0,0)):=aa _ an.out;have c5:d < c:=by rw[<-G];exact lt_of_heap an.out
 rw[G]at a4 c0;rw[G];clear al G an R
 go_loopw [3,4,5,6] (λb8 one _ _ wr=>∃(pos:Nat) (j:NS),wr.heap[c]? =W (.stringIter s pos)/\pos<=s.size/\(∃g a:Int,(pos=0\/s.data.toList[pos - 1]?.map (λx=>(x.toNat:Int))=W g)/\one=V .i32 g/\b8=V .i32 a)/\J (pos - 1) j wr/\(∀k,j k->k≠c/\k≠d)/\wr.heap[d]? =W (.cells #[U s] 9 (0,0))) (λ_ _ _ _ wr=>s.size - wr.iterPos c)
 case atStart=>exact⟨0,A,cl,z_ _,⟨0,0,.inl rfl,rfl,rfl⟩,b2,a4.out,b4⟩
 case round=>
  obtain⟨pos,j,z,dc,⟨R,P,N,rfl,rfl⟩,F,a9,a2⟩:=hrel;obtain⟨q,bD,D⟩:=zx3 a9 a2 z;clear a9 a2;have bw:wr.iterPos c=pos:=by simp[World.iterPos,z]
  by_cases a0:pos < s.size
  ·have ad:∀r,(Instr.next (Z (W ⟨c,0,O⟩)) true r).run π wr=_:=λr=>Lib.run_next_any_at wr c s pos r z a0
   have b6:pos < s.data.toList.length:=by rw[ap];exact a0
   obtain⟨g,ab⟩:∃g,s.data.toList[pos]? =W g:=⟨_,zE b6⟩;rw[wT s ch pos g ab]at ad;simp only at ad;have M:=bL wr c s s pos (pos+1) D.out;have c3:Far (y8 (·=d) j base) wr (wr.iterAt c s (pos+1)):=(ix wr c s (pos+1)).mono (λk _ e=>⟨λb=>(q.out k b).1 e,.inr (by omega)⟩);have bm:=bn.out _ j _ _ F c3;have a1:=(ix wr c s (pos+1)).heap bD.out (by omega);by_cases bx:pos=0
   ·subst bx
    clear F z D
    go_wp2_with fail
    go_roundw
    case rel=>exact⟨1,j,M,by omega,⟨_,_,.inr (by rw[show 1 - 1=0 from rfl,ab];rfl),rfl,rfl⟩,bm,q.out,a1⟩
    case measure=>rw[bw,show (wr.iterAt c s 1).iterPos c=1 by simp[World.iterPos,M]];omega
   ·have di:0 < pos:=by omega
    have cc:pos - 1+1=pos:=by omega
    have b3:pos - 1 < s.size:=by omega
    have C:AQ s (pos - 1) #[V .i32 R,γ #[V .i32 P,V .i32 (g.toNat:Int)]] xO (wr.iterAt c s (pos+1)):=by
     rcases N with b|b
     ·exact absurd b bx
     ·obtain⟨x,m,rfl⟩:=zN.1 b
      exact⟨⟨x,P,_,m,rfl⟩,rfl⟩
    have i:=bk.out (pos - 1) b3 j xO _ _ bm C (λ_ b=>b.elim);rw[cc]at i;obtain⟨ac,X⟩:=zx2 i M;clear i C F z D M N
    go_upto_region 4 with (fail)
    refine(wpIn_wide (n:=4)).1 ?_;generalize hW1:wr.iterAt c s (pos+1)=dl at *;obtain⟨c1,cb,assign,body,i,H⟩:=ac.out;have ao:=zD H;clear H
    gi_wp2
    refine(ao.out).mono ?_;rintro e L ⟨o,⟨y,E⟩,(⟨rfl,S⟩|⟨rfl,m⟩)⟩
    ·have bR:=y.heap X.out (λb=>(q.out _ b).1 rfl)
     have t:=y.heap a1 (λb=>(q.out _ b).2 rfl);have a5:∀k,o k->k≠c/\k≠d:=by
      intro k b;rcases E k b with b|b|b
      ·exact q.out k b
      ·exact b.elim
      ·have:=lt_of_heap X.out
       omega
     obtain⟨ca,be,b9,cS⟩:=zx4 a5 bR t S;clear S y E a5 bR t
     gi_wp2
     go_wp2_with fail
     go_roundw
     case rel=>exact⟨pos+1,o,be.out,by omega,⟨_,_,.inr (by rw[show pos+1 - 1=pos by omega,ab];rfl),rfl,rfl⟩,cS.out,ca.out,b9.out⟩
     case measure=>rw[bw,show L.iterPos c=pos+1 by simp[World.iterPos,be.out]];omega
    ·have t:=y.heap a1 (λb=>(q.out _ b).2 rfl)
     have ct:¬o d:=by
      intro b;rcases E _ b with b|b|b
      ·exact(q.out _ b).2 rfl
      ·exact b.elim
      ·have:=lt_of_heap X.out
       omega
     have a3:=co.out o _ _ m ((ξ _ L).setCell (p:=⟨d,0,O⟩) (λ_=>⟨ct,.inl rfl⟩) (U ⟨#[]⟩));have c6:=zF t 0 rfl;have c9:=ag t 0;have da:(L.setCell ⟨d,0,O⟩ (U ⟨#[]⟩)).cell? ⟨d,0,O⟩=W (U ⟨#[]⟩):=ae (ai t 0 _) 0;have ck:=zD a3;clear m a3 y E t
     gi_wp2
     go_wp2_with fail
     rw[Exit.noGoto_normal]
     go_end0
     exact⟨⟨_,rfl⟩,.inr ⟨o,ck.out⟩⟩
  ·have ad:∀r,(Instr.next (Z (W ⟨c,0,O⟩)) true r).run π wr=_:=λr=>Lib.run_next_end_at wr c s pos r D.out a0
   have cv:pos=s.size:=by omega
   subst cv;have dj:=zF bD.out 0 rfl;have C:AQ s (s.size - 1) #[V .i32 R,γ #[V .i32 P,V .i32 0]] xO wr:=by
    rcases N with b|b
    ·exact absurd b b0
    ·obtain⟨x,m,rfl⟩:=zN.1 b
     exact⟨⟨x,P,_,m,rfl⟩,rfl⟩
   have i:=bk.out (s.size - 1) (by omega) j xO _ _ F C (λ_ b=>b.elim);rw[show s.size - 1+1=s.size by omega]at i;have ac:=zD i;clear i C F z D N
   go_upto_region 8 with (fail)
   refine(wpIn_wide (n:=4)).1 ?_;obtain⟨c1,cb,assign,body,i,H⟩:=ac.out;have ao:=zD H;clear H
   gi_wp2
   refine(ao.out).mono ?_;rintro e L ⟨o,⟨y,E⟩,(⟨rfl,S⟩|⟨rfl,m⟩)⟩
   ·gi_wp2
    go_wp2_with fail
    rw[Exit.noGoto_normal]
    go_end0
    exact⟨⟨_,rfl⟩,.inl ⟨o,S,trivial⟩⟩
   ·gi_wp2
    go_wp2_with fail
    rw[Exit.noGoto_normal]
    go_end0
    exact⟨⟨_,rfl⟩,.inr ⟨o,m⟩⟩
end
section
attribute [local go_sem] ak
attribute [local go_sem] Oper.semAt_some
theorem rg(c:Bool)(a:Int)(b:Nat)(j:0<=a)(i:a < 128)(g:decide (0<=Lib.indexByte [44,91,93,123,125] a.toNat.toUInt8)=false)(w:World)(d:w.heap[b]? =W (J #[β c] 4 (0,0))):
 Calls π 306 #[V .i32 a,Z (W ⟨b,0,O⟩)] w λe w'=>e=ρ (β false)/\w'=w:=by
 have f:=λk=>strings_ContainsRune_ascii ⟨#[44,91,93,123,125]⟩ a k j i;rw[show (⟨#[44,91,93,123,125]⟩:ByteArray).data.toList=[44,91,93,123,125]from rfl,g]at f;have m:=zF d 0 rfl;clear g d;cases c with
 |true=>
  go_enter func306,ntmps306
  go_wp2_with fail
  refine(f _).mono ?_;rintro e l ⟨rfl,rfl⟩
  go_wp2_with fail
  go_ret
  exact⟨rfl,rfl⟩
 |false=>
  go_enter func306,ntmps306
  go_wp2_with fail
  go_ret
  exact⟨rfl,rfl⟩
theorem a8(a:UInt8)(b:Tp.plainC a=true):a.toNat < 128/\32 < a.toNat/\a.toNat≠127/\a.toNat≠58/\a.toNat≠35/\decide (0<=Lib.indexByte [44,91,93,123,125] ((a.toNat:Int)).toNat.toUInt8)=false/\
 decide (0<=Lib.indexByte [44,91,93,123,125,35,38,42,33,124,62,39,34,37,64,96] ((a.toNat:Int)).toNat.toUInt8)=false:=by
 have c:∀n:Fin 256,Tp.plainC (UInt8.ofNat n.val)=true->(UInt8.ofNat n.val).toNat < 128/\32 < (UInt8.ofNat n.val).toNat/\(UInt8.ofNat n.val).toNat≠127/\(UInt8.ofNat n.val).toNat≠58/\(UInt8.ofNat n.val).toNat≠35/\decide (0<=Lib.indexByte [44,91,93,123,125] (((UInt8.ofNat n.val).toNat:Int)).toNat.toUInt8)=false/\
  decide (0<=Lib.indexByte [44,91,93,123,125,35,38,42,33,124,62,39,34,37,64,96] (((UInt8.ofNat n.val).toNat:Int)).toNat.toUInt8)=false:=by decide+kernel
 have:=c ⟨a.toNat,a.toNat_lt⟩;simp only[UInt8.ofNat_toNat]at this;exact this b
def LI(w:World)(d:Bool)(b t:Nat)(c:NS)(a:World):Prop:=
 c=xO/\t<=b/\a.heap[w.heap.size]? =W (J #[β d] 4 (0,0))/\a.heap[w.heap.size+1]? =W (J #[β false] 4 (0,0))/\a.heap[w.heap.size+1+1]? =W (J #[φ (.func 306) #[] #[Z (W ⟨w.heap.size,0,O⟩)]] 49 (0,0))/\Below w.heap.size w a
theorem LI.far{w:World}{g:Bool}{d t:Nat}{f D:NS}{c l:World}(r:LI w g d t f c)(b:Far D c l)(a:∀k,D k->w.heap.size+2 < k):LI w g d t f l:=by
 obtain⟨o,m,q,n,p,j⟩:=r;exact⟨o,m,b.heap q (λe=>by have:=a _ e;omega),b.heap n (λe=>by have:=a _ e;omega),b.heap p (λe=>by have:=a _ e;omega),j.trans (b.to_below j.size (λi s e=>by have:=a _ e;omega))⟩
theorem pf(s:ByteArray)(d:Bool)(T:s.size<=100000)(F:∀b∈s.data.toList,Tp.plainC b=true)(H:s.size≠0)(w:World):
 Calls π 290 #[U s,β d] w λe w'=>e=ρ (β true)/\Below w.heap.size w w':=by
 have R:=λa1 j c=>oM s T (λb u=>(a8 b (F b u)).1) H a1 j c;obtain⟨p,cl⟩:∃p,s.size=p:=⟨_,rfl⟩;obtain⟨a6,ao⟩:=zx2 R F;clear R F T H;refine callsIn_wide.1 (callsIn_of_wp_marks (n:=5) func290 rfl trivial (wpIn_wide.2 ?_));simp only[ntmps290,List.size_toArray,zO,List.length_nil,Nat.reduceAdd,Nat.reduceSub,Array.replicate_succ,Array.replicate_zero,List.push_toArray,List.append_toArray,List.nil_append,List.cons_append]
 go_wp2_with fail
 refine(qK s _).mono ?_;rintro e z ⟨rfl,x⟩;have ad:z.heap.size=w.heap.size+4:=by rw[x];simp
 have G:z.heap[w.heap.size+3]? =W (J #[U s] 9 (0,0)):=by rw[x];exact ah _ _ _ (by simp)
 have S:LI w d p 0 xO z:=by
  have bw:(((w.alloc (J #[β d] 4)).alloc (J #[β false] 4)).alloc (J #[φ (.func 306) #[] #[Z (W ⟨w.heap.size,0,O⟩)]] 49)).heap[w.heap.size]? =W (J #[β d] 4 (0,0)):=aa _ (aa _ (ah _ _ _ rfl));have bs:(((w.alloc (J #[β d] 4)).alloc (J #[β false] 4)).alloc (J #[φ (.func 306) #[] #[Z (W ⟨w.heap.size,0,O⟩)]] 49)).heap[w.heap.size+1]? =W (J #[β false] 4 (0,0)):=aa _ (ah _ _ _ (by simp));have a0:(((w.alloc (J #[β d] 4)).alloc (J #[β false] 4)).alloc (J #[φ (.func 306) #[] #[Z (W ⟨w.heap.size,0,O⟩)]] 49)).heap[w.heap.size+1+1]? =W (J #[φ (.func 306) #[] #[Z (W ⟨w.heap.size,0,O⟩)]] 49 (0,0)):=ah _ _ _ (by simp);have ab:Below w.heap.size w (((w.alloc (J #[β d] 4)).alloc (J #[β false] 4)).alloc (J #[φ (.func 306) #[] #[Z (W ⟨w.heap.size,0,O⟩)]] 49)):=((((ζ _ _).alloc (η _) _).alloc (by simp) _).alloc (by simp;omega) _);rw[x];exact⟨rfl,z_ _,aa _ bw,aa _ bs,aa _ a0,ab.alloc ab.size _⟩
 obtain⟨bD,C,an⟩:=zx3 S ad G;clear x ad G S
 go_wp2_with fail
 refine wpIn_wide.1 (aC (n:=5) (gf:=320) (lb:=#[Z (W ⟨w.heap.size+3,0,O⟩)]) rfl (λargs wx=>rW args wx)
  (a6.out (w.heap.size+3) z an.out) (λk e=>by have:=lt_of_heap an.out;omega) (λk e=>e.elim) (λt v a2 j c=>by obtain⟨⟨b,a,o,_,rfl⟩,_⟩:=c;rfl)
  (LI w d p) (λ_ _ _=>False) xO (λk c=>c.elim) bD.out ?hI (λ_ _ _ _ c _=>c) (λ_ _ _ _=>trivial) (λ_ _ _ _=>trivial) ?round ?done (λ_ _ _ c=>c.elim))
 case hI=>
  intro t N j ac c a5;exact c.far a5 (λk e=>by have:=C.out;rcases e.2 with c|c<;>omega)
 case round=>
  rintro t N a2 v j K b0 b5 ⟨rfl,bb,y,f,r,g⟩ ⟨⟨b,a,o,u,rfl⟩,rfl⟩ b3 a4 m;have av:=a8 b (ao.out b (zL u))
  gi_wp2
  refine m _ _ ((ξ _ j).alloc _) ?_;intro E l _ _;rw[C.out]at l;have D:=l.heap (aa (J #[V .i32 a,V .i32 o] 479) y) (by omega);have al:=l.heap (aa (J #[V .i32 a,V .i32 o] 479) f) (by omega);have A:=l.heap (aa (J #[V .i32 a,V .i32 o] 479) r) (by omega);have X:Below w.heap.size w E:=(g.alloc g.size (J #[V .i32 a,V .i32 o] 479)).trans (l.to_below (by have:=g.size;simp;omega) (λi bq e=>by omega));obtain⟨cm,cb,cc,ca,ch,be,_⟩:=av;have b2:¬((b.toNat:Int) < 32):=by omega
  have ba:¬((b.toNat:Int)=127):=by omega
  have bk:¬((b.toNat:Int)=58):=by omega
  have bn:¬((b.toNat:Int)=35):=by omega
  have b6:((b.toNat:Int)==127)=false:=by simpa using ba
  have ck:((b.toNat:Int)==58)=false:=by simpa using bk
  have b1:((b.toNat:Int)==35)=false:=by simpa using bn
  have P:=rg d (b.toNat:Int) w.heap.size (by omega) (by omega) be E D;generalize (b.toNat:Int)=b9 at *;have c5:=zF A 0 rfl;have bx:=zD P;have bm:RowKit.Hid (LI w d p (t+1) xO E):=zD ⟨rfl,by omega,D,al,A,X⟩;clear y f r g D al A X l P u m
  gi_wp2_with fail
  refine⟨trivial,(CallsIn.inRound _ (callsIn_wide.2 bx.out)).mono ?_⟩;rintro e b8 ⟨rfl,rfl⟩
  gi_wp2_with fail
  refine⟨trivial,?_⟩
  gi_wp2_with fail
  exact⟨xO,bm.out,ξ _ _,λ_ c=>c.elim⟩
 case done=>
  rintro N j ⟨rfl,bb,y,f,r,g⟩ _ m a4;rw[C.out]at m ⊢;have b4:=ag f 0;have cf:=zF f 0 rfl;obtain⟨bR,L,a9⟩:=zx3 f g m;clear y f r g m
  go_wp2_with fail
  refine au (q:=w.heap.size+4) rfl ((Below.heap_setCell _ _ _ _ (by show w.heap.size+4≠w.heap.size+1;omega)).trans a9.out) ?_;intro ac M;have a3:ac.cell? ⟨w.heap.size+1,0,O⟩=W (β true):=ae (M.heap (ai bR.out 0 _) (by omega)) 0;refine⟨β true,by simp[results,results290,go_sem,a3],rfl,?_⟩;exact(L.out.setCell (by show w.heap.size<=w.heap.size+1;omega) _).trans (M.to_below (by simp[World.setCell];exact L.out.size) (λi bq e=>by omega))
end
def atR(s:ByteArray)(i:Nat):Int:=if i < s.size then ((Ln.dec (s.data.toList.drop i)).1:Int)else 65533
def rdV(s:ByteArray)(q:Int):Value:=γ #[U s,V .i32 q]
theorem dZ(s:ByteArray)(q:Int)(i:Nat)(z:i<=1000000)(y:s.size<=1000000)(w:World)(r:Glob w):
 Calls π 328 #[rdV s q,V I (i:Int)] w λe w'=>e=ρ (V .i32 (atR s i))/\Below w.heap.size w w':=by
 have f:=(ζ w.heap.size w).alloc (η _) (J #[U s,V .i32 q] 466);have d:=λt=>utf8_DecodeRuneInString t _ (r.step f).2.1;unfold rdV atR;have c:=zD f;clear f r;by_cases m:i < s.size
 ·have x:min (i:Int) (s.size:Int)=(i:Int):=by omega
  have b:(s.extract i s.size).size≠0:=by rw[ByteArray.size_extract];omega
  have l:(s.extract i s.size).data.toList=s.data.toList.drop i:=by
   rw[ByteArray.data_extract,Array.toList_extract,List.extract_eq_take_drop];exact zR (by simp only[zZ,Array.length_toList];exact η _)
  have k:=eL (s.extract i s.size) b;rw[l]at k;have a:=d (s.extract i s.size);rw[k]at a;rw[if_pos m];obtain⟨o,p⟩:∃o:Int,((Ln.dec (s.data.toList.drop i)).1:Int)=o:=⟨_,rfl⟩;obtain⟨n,u⟩:∃n:Int,((Ln.dec (s.data.toList.drop i)).2:Int)=n:=⟨_,rfl⟩;rw[p]at a ⊢;rw[u]at a;have g:=zD a;clear d a k l b p u
  go_enter func328,ntmps328
  go_wp2_with fail
  refine g.out.mono ?_;rintro e v ⟨rfl,j⟩
  go_wp2_with fail
  go_ret
  exact⟨rfl,c.out.trans (j.mono c.out.size)⟩
 ·have x:min (i:Int) (s.size:Int)=(s.size:Int):=by omega
  have b:(ByteArray.empty).size=0:=rfl;have a:=d ByteArray.empty;unfold Lib.decodeGo at a;rw[if_pos b]at a;rw[if_neg m];have g:=zD a;clear d a b
  go_enter func328,ntmps328
  go_wp2_with fail
  refine g.out.mono ?_;rintro e v ⟨rfl,j⟩
  go_wp2_with fail
  go_ret
  exact⟨rfl,c.out.trans (j.mono c.out.size)⟩
theorem io(s:ByteArray)(E:s.size<=1000000)(i:Tp.isName s.data.toList=true)(w:World):Calls π 211 #[U s] w λe w'=>e=ρ (β true)/\Below w.heap.size w w':=by
 unfold Tp.isName at i;simp only[zQ,decide_eq_true_eq,List.all_eq_true,Bool.not_eq_true']at i;obtain⟨⟨m,c⟩,x⟩:=i;rw[ap]at x;have F:(s.toList==[])=false:=by rw[ByteArray.toList_eq];cases y:s.data.toList with|nil=>rw[y]at c;simp at c|cons _ _=>rfl
 have D:s.toList.isEmpty=false:=by rw[ByteArray.toList_eq];exact c
 have t:¬s.toList=[]:=by rw[ByteArray.toList_eq];intro e;rw[e]at c;simp at c
 have u:=zD m;clear m
 go_enter func211,ntmps211
 go_wp2_with fail
 go_loopw [2,4,7] (λ_ _ _ wr=>∃pos:Nat,wr.heap[w.heap.size]? =W (.stringIter s pos)/\pos<=s.size/\Below w.heap.size w wr) (λ_ _ _ wr=>s.size - wr.iterPos w.heap.size)
 case atStart=>exact⟨0,World.iter_heap w s 0,z_ _,(ζ _ _).alloc (η _) _⟩
 case round=>
  obtain⟨pos,d,G,f⟩:=hrel;have v:wr.iterPos w.heap.size=pos:=by simp[World.iterPos,d]
  by_cases g:pos < s.size
  ·have n:∀a,(Instr.next (Z (W ⟨w.heap.size,0,O⟩)) true a).run π wr=_:=λa=>Lib.run_next_any_at wr w.heap.size s pos a d g
   have b:pos < s.data.toList.length:=by rw[ap];exact g
   have j:=u.out _ (List.getElem_mem b);have o:(s.data.toList[pos]'b).toNat < 128:=by
    simp only[Tp.signC,Bool.or_eq_true,zQ,decide_eq_true_eq,beq_iff_eq]at j;omega
   rw[aX,zW b,Ln.aM _ _ o]at n;have l:Aa ((s.data.toList[pos]'b).toNat:Int)=true:=by
    simp only[Tp.signC,Bool.or_eq_true,zQ,decide_eq_true_eq,beq_iff_eq]at j;simp only[Aa,Bool.or_eq_true,zQ,decide_eq_true_eq];omega
   have p:=λq=>jO ((s.data.toList[pos]'b).toNat:Int) q;rw[l]at p;generalize ((s.data.toList[pos]'b).toNat:Int)=C at *;have z:Below w.heap.size w (wr.iterAt w.heap.size s (pos+1)):=f.trans (bu _ _ _ _ _ (η _));have k:=bL wr w.heap.size s s pos (pos+1) d;clear f d j o l
   go_wp2_with fail
   refine(p _).mono ?_;rintro e A ⟨rfl,rfl⟩
   go_wp2_with fail
   go_roundw
   case rel=>exact⟨pos+1,k,by omega,z⟩
   case measure=>rw[show (wr.iterAt w.heap.size s (pos+1)).iterPos w.heap.size=pos+1 by simp[World.iterPos,k],v];omega
  ·have n:∀a,(Instr.next (Z (W ⟨w.heap.size,0,O⟩)) true a).run π wr=_:=λa=>Lib.run_next_end_at wr w.heap.size s pos a d g
   have r:(s.size:Int)<=20:=by omega
   go_wp2_with fail
   go_ret
   exact⟨by simp[r,t],f⟩
theorem iI(x:Int)(b:0<=x)(a:x<=255):IntKind.u8.wrap x=x:=by simp[IntKind.wrap,IntKind.bits,IntKind.signed];omega
theorem eQ(x:Int)(b:0<=x)(a:x<=18446744073709551615):IntKind.u64.wrap x=x:=by simp[IntKind.wrap,IntKind.bits,IntKind.signed];omega
theorem c7(a:UInt8)(x:Nat)(b:Tp.unhexD a=W x):(48<=a.toNat/\a.toNat<=57/\x=a.toNat - 48)\/(97<=a.toNat/\a.toNat<=102/\x=a.toNat - 87):=by
 unfold Tp.unhexD at b;split at b
 ·left;simp only[Option.some.injEq]at b;omega
 ·split at b
  ·right;simp only[Option.some.injEq]at b;omega
  ·simp at b
theorem rf(B:Int)(b:97<=B/\B<=102)(w:World):Calls π 343 #[V .u8 B] w λe w'=>e=ρ (V .u8 B)/\w'=w:=by
 have a:bits BinOp.or IntKind.u8 B 32=B:=by
  have:B=97\/B=98\/B=99\/B=100\/B=101\/B=102:=by omega
  rcases this with rfl|rfl|rfl|rfl|rfl|rfl<;>rfl
 go_enter func343,ntmps343
 go_wp2
 go_ret
 exact⟨by simp[a],rfl⟩
theorem mP(a b:UInt8)(w:World):∃cap c,(∀d,d=9->(convert d 36 (U ⟨#[a,b]⟩)).run π w=.ok (Y (W ⟨w.heap.size,0,O⟩) 2 cap) c)/\c.cell? ⟨w.heap.size,0,O⟩=W (V .u8 (a.toNat:Int))/\c.cell? ⟨w.heap.size,1,O⟩=W (V .u8 (b.toNat:Int))/\Below w.heap.size w c:=by
 have g:=Lib.run_convert_string_bytes (P:=π) w 9 36 5 ⟨#[a,b]⟩ underlying9 underlying36 underlying5;have f:=Lib.bytesWorld_at_new w 5 ⟨#[a,b]⟩;refine⟨grownCap w 2 0 5,Lib.bytesWorld w 5 ⟨#[a,b]⟩,λd e=>by subst e;exact g,?_,?_,⟨rfl,rfl,rfl,?_,λi j=>Lib.bytesWorld_at_old w 5 _ i j⟩⟩
 ·rw[ae f 0,Lib.bytesCells,Array.getElem?_append_left (by simp)];simp
 ·rw[ae f 1,Lib.bytesCells,Array.getElem?_append_left (by simp)];simp
 ·exact Nat.le_of_lt (lt_of_heap f)
theorem wB(a g:UInt8)(x f:Nat)(r:Tp.unhexD a=W x)(p:Tp.unhexD g=W f)(G:x < 8)(w:World):
 Calls π 339 #[U ⟨#[a,g]⟩,V I 16,V I 32] w λe w'=>e=ρ (.tuple #[V .u64 ((16 * x+f:Nat):Int),.nilIface])/\Below w.heap.size w w':=by
 have A:=c7 a x r;have H:=c7 g f p;obtain⟨cap,av,t,z,C,j⟩:=mP a g w;have t:=t 9 rfl;have o:=zD j;obtain⟨d,u⟩:∃d:Int,((16 * x+f:Nat):Int)=d:=⟨_,rfl⟩;obtain⟨c,n⟩:∃c:Int,(a.toNat:Int)=c:=⟨_,rfl⟩;obtain⟨B,s⟩:∃B:Int,(g.toNat:Int)=B:=⟨_,rfl⟩;obtain⟨X,D⟩:∃X:Int,(x:Int)=X:=⟨_,rfl⟩;obtain⟨b,y⟩:∃b:Int,(f:Int)=b:=⟨_,rfl⟩;rw[n]at z;rw[s]at C;rw[u];have ba:48<=c:=by omega
 have bb:c<=57:=by omega
 have l:c - 48=X:=by omega
 have L:0<=X:=by omega
 have ab:X < 8:=by omega
 have a6:0<=b:=by omega
 have an:b<=15:=by omega
 have ao:IntKind.u8.wrap (c - 48)=X:=by rw[l];exact iI _ (by omega) (by omega)
 have a2:IntKind.u64.wrap X=X:=eQ _ (by omega) (by omega);have P:IntKind.u64.wrap b=b:=eQ _ (by omega) (by omega);have a4:IntKind.u64.wrap (X * 16)=X * 16:=eQ _ (by omega) (by omega);have m:X * 16+b=d:=by omega
 have be:IntKind.u64.wrap (X * 16+b)=d:=by rw[m];exact eQ _ (by omega) (by omega)
 have al:¬c=95:=by omega
 have ac:¬16<=X:=by omega
 have a5:¬16<=b:=by omega
 have ad:¬1152921504606846976<=X:=by omega
 have S:¬d < X * 16:=by omega
 have a1:¬d > 4294967295:=by omega
 have R:¬X < 0:=by omega
 have a9:¬X > 4294967295:=by omega
 have E:(48<=B/\B<=57/\b=B - 48)\/(97<=B/\B<=102/\b=B - 87):=by omega
 have a0:¬B=95:=by omega
 clear A H r p G n s D y u j l m;rcases E with ⟨k,q,i⟩|⟨k,q,i⟩
 ·have u1:IntKind.u8.wrap (B - 48)=b:=by rw[<-i];exact iI _ (by omega) (by omega)
  clear i
  go_enter func339,ntmps339
  go_wp2_with fail
  refine wp_loop_rounds 3 ?_;rw[rounds_succ]
  go_wp2_with fail
  rw[rounds_succ]
  go_wp2_with fail
  rw[rounds_succ]
  go_wp2_with fail
  go_ret2
  exact⟨rfl,o.out⟩
 ·have u1:IntKind.u8.wrap (B - 97)=B - 97:=iI _ (by omega) (by omega)
  have u2:IntKind.u8.wrap (B - 97+10)=b:=by rw[show B - 97+10=b by omega];exact iI _ (by omega) (by omega)
  have T:¬B<=57:=by omega
  have a3:B<=122:=by omega
  have N:48<=B:=by omega
  have F:=λv=>rf B ⟨k,q⟩ v;clear i
  go_enter func339,ntmps339
  go_wp2_with fail
  refine wp_loop_rounds 3 ?_;rw[rounds_succ]
  go_wp2_with fail
  rw[rounds_succ]
  go_wp2_with (go_at_call 343;refine(F _).mono ?_;rintro e M ⟨rfl,rfl⟩)
  rw[rounds_succ]
  go_wp2_with fail
  go_ret2
  exact⟨rfl,o.out⟩
theorem qF(a c:UInt8)(x b:Nat)(i:Tp.unhexD a=W x)(d:Tp.unhexD c=W b)(f:x < 8)(w:World):
 Calls π 342 #[U ⟨#[a,c]⟩,V I 16,V I 32] w λe w'=>e=ρ (.tuple #[V .u64 ((16 * x+b:Nat):Int),.nilIface])/\Below w.heap.size w w':=by
 have g:=wB a c x b i d f w;generalize hR:(((16 * x+b:Nat):Int):Int)=l at g ⊢;clear hR i d f
 go_enter func342,ntmps342
 go_wp2_with fail
 refine g.mono ?_;rintro e k ⟨rfl,j⟩
 go_wp2_with fail
 go_ret2
 exact⟨rfl,j⟩
def yD(b a:Int):Value:=.iface 471 (γ #[V .i32 b,V I a])
theorem fC(w:World)(a:List Int)(T:TypeId):RA (w.alloc (J (a.map (Value.int .i32)).toArray T)) (W ⟨w.heap.size,0,O⟩) w.heap.size 0 (a.map (Value.int .i32)):=
 λ_=>⟨rfl,by simp,λi v b=>by rw[Nat.zero_add,ae (af _ _) i];simpa using b⟩
theorem tH(s:ByteArray)(q:Int)(p:Nat)(a f:UInt8)(x i:Nat)(an:s.size<=1000000)(u:s.data.toList[p]? =W a)(l:s.data.toList[p+1]? =W f)(t:Tp.unhexD a=W x)(n:Tp.unhexD f=W i)(av:x < 8)(w:World)(N:Glob w):
 Calls π 338 #[rdV s q,V I (p:Int),V I 2] w λe w'=>e=ρ (yD ((16 * x+i:Nat):Int) ((p:Int)+2))/\Below w.heap.size w w':=by
 have ab:=c7 a x t;have a0:=c7 f i n;have a2:p+1 < s.size:=by rw[<-ap];exact(zM.1 l).1
 have ao:s.extract p (p+2)=⟨#[a,f]⟩:=by
  have:(s.extract p (p+2)).data.toList=[a,f]:=by
   rw[ByteArray.data_extract,Array.toList_extract,List.extract_eq_take_drop];have g:=zM.1 u;have C:=zM.1 l;rw[zW g.1,zW C.1,g.2,C.2];simp
  have e:(s.extract p (p+2)).data=#[a,f]:=by rw[<-Array.toArray_toList (xs:=(s.extract p (p+2)).data),this]
  cases ac:s.extract p (p+2) with
  |mk d=>rw[ac]at e;simp only at e;rw[e]
 have k:=dZ s q p (by omega) an;have H:atR s p=(a.toNat:Int):=by
  unfold atR;have g:=zM.1 u;rw[if_pos (by omega),zW g.1,g.2,Ln.aM _ _ (by omega)]
 rw[H]at k;have M:=λb=>qF a f x i t n av b;obtain⟨c,S⟩:∃c:Int,((16 * x+i:Nat):Int)=c:=⟨_,rfl⟩;obtain⟨j,G⟩:∃j:Int,(a.toNat:Int)=j:=⟨_,rfl⟩;rw[S]at M ⊢;rw[G]at k;have al:decide (j∈([43,45]:List Int))=false:=by simp;omega
 have a9:0<=c:=by omega
 have a3:c<=127:=by omega
 have ba:IntKind.i64.wrap ((p:Int)+2)=(p:Int)+2:=zU _ (by omega);have be:IntKind.i32.wrap c=c:=by simp[IntKind.wrap,IntKind.bits,IntKind.signed];omega
 have D:=λb=>utf8_ValidRune c b;have E:Lib.validRune c=true:=by unfold Lib.validRune;simp;omega
 rw[E]at D;have a6:¬(p:Int)+2 > (s.size:Int):=by omega
 have a5:∀b,(Instr.slice 9 (U s) (W (V I (p:Int))) (W (V I ((p:Int)+2))) O).run π b=.ok (U ⟨#[a,f]⟩) b:=by
  intro b;have R:=run_slice_string (P:=π) b 9 s I I (p:Int) ((p:Int)+2) underlying9 (by omega) (by omega) (by omega);rw[show ((p:Int)+2).toNat=p+2 by omega,Int.toNat_natCast,ao]at R;exact R
 have m:=(ζ w.heap.size w).alloc (η _) (J #[U s,V .i32 q] 466);have A:=zD (k _ (N.step m));have z:=zD m;unfold rdV at A ⊢;unfold yD;clear u l t n ab a0 k H S G m N E
 go_enter func338,ntmps338
 go_wp2_with fail
 refine A.out.mono ?_;rintro e y ⟨rfl,v⟩;have r:=z.out.trans (v.mono z.out.size);have F:=(v.block w.heap.size (by simp)).trans (af w _);have ad:=zD (cn j [43,45] _ _ 0 2 2 rfl (by omega) _ (fC y [43,45] 21));have L:=zD (r.alloc r.size (J #[V .i32 43,V .i32 45] 21));have bb:∀o:Obj,(y.alloc o).cell? ⟨w.heap.size,0,O⟩=W (U s):=λo=>ae (aa o F) 0;clear v r F
 go_wp2_with fail
 refine ad.out.mono ?_;rw[al];rintro e bk ⟨rfl,rfl⟩
 go_wp2_with fail
 refine(M _).mono ?_;rintro e a4 ⟨rfl,T⟩;have X:=zD (L.out.trans (T.mono (by have:=L.out.size;simpa using this)));clear T
 go_wp2_with fail
 refine(D _).mono ?_;rintro e a1 ⟨rfl,rfl⟩
 go_wp2_with fail
 go_ret
 exact⟨rfl,X.out⟩
theorem ci(s:Tp.B)(a:Tp.okPlain s=true):(∀f∈s,Tp.plainC f=true)/\s≠[]/\s≠[45]:=by
 unfold Tp.okPlain at a;simp only[zQ,Bool.not_eq_true',List.isEmpty_eq_false_iff,List.all_eq_true]at a;obtain⟨⟨d,c⟩,b⟩:=a;exact⟨d,c,λe=>by rw[e]at b;simp at b⟩
theorem tL(s:Tp.B)(c:∀a∈s,Tp.plainC a=true):Lib.trimB s 32=s:=by
 have b:∀l:Tp.B,(∀a∈l,Tp.plainC a=true)->l.dropWhile (·==32)=l:=by
  intro l d;cases l with
  |nil=>rfl
  |cons a t=>
   have:=(a8 a (d a (by simp))).2.1;rw[List.dropWhile_cons_of_neg];intro e;rw[beq_iff_eq]at e;rw[e]at this;exact absurd this (by decide)
 have f:Lib.trimRightB s 32=s:=by
  unfold Lib.trimRightB;rw[b _ (λa g=>c a (by simpa using g)),List.reverse_reverse]
 unfold Lib.trimB;rw[f];exact b s c
theorem mH(s:ByteArray)(bk:s.size<=100000)(D:Tp.okPlain s.data.toList=true)(w:World):Calls π 289 #[U s] w λe w'=>e=ρ (β true)/\Below w.heap.size w w':=by
 obtain⟨i,z,f⟩:=ci _ D;obtain⟨b,t,d⟩:=List.exists_cons_of_ne_nil z;have q:=a8 b (i b (by rw[d];simp));have ac:0 < s.size:=by rw[<-ap,d];simp
 have a6:∀a,(Instr.index 9 (U s) (V I 0)).run π a=.ok (V .u8 (b.toNat:Int)) a:=by
  intro a;rw[vQ s 0 0 rfl ac a];unfold Ln.nat
  rw[d];rfl
 obtain⟨c,o⟩:∃c,s.extract 1 s.size=c:=⟨_,rfl⟩;have ba:∀a,(Instr.slice 9 (U s) (W (V I 1)) O O).run π a=.ok (U c) a:=by
  intro a;rw[run_slice_string_l a 9 s underlying9 I 1 (by omega) (by omega),<-o];rfl
 have r:c.data.toList=t:=by
  rw[<-o,ByteArray.data_extract,Array.toList_extract,List.extract_eq_take_drop,d];rw[zR (by have:=ap s;rw[d]at this;simp at this ⊢;omega)];rfl
 have l:=strings_Trim_one s 32 (by decide);rw[tL _ i]at l;have L:∀a,Calls π 304 #[U s,U ⟨#[32]⟩] a λe w'=>e=ρ (U s)/\(w'=a\/w'=a.drew):=λa=>l a (by omega);have j:=λa=>strings_IndexByte ⟨#[44,91,93,123,125,35,38,42,33,124,62,39,34,37,64,96]⟩ (b.toNat:Int) a;obtain⟨X,k⟩:∃X,Lib.indexByte [44,91,93,123,125,35,38,42,33,124,62,39,34,37,64,96] ((b.toNat:Int)).toNat.toUInt8=X:=⟨_,rfl⟩;have P:¬(0<=X):=by have:=q.2.2.2.2.2.2;rw[k]at this;simpa using this
 rw[show (⟨#[44,91,93,123,125,35,38,42,33,124,62,39,34,37,64,96]⟩:ByteArray).data.toList=[44,91,93,123,125,35,38,42,33,124,62,39,34,37,64,96]from rfl,k]at j;have M:=λa=>uJ X 0 a;rw[decide_eq_false P]at M;have bm:∀a,(convert 5 21 (V .u8 (b.toNat:Int))).run π a=.ok (V .i32 (b.toNat:Int)) a:=by
  intro a;have:IntKind.i32.wrap (b.toNat:Int)=(b.toNat:Int):=by have:=b.toNat_lt;simp[IntKind.wrap,IntKind.bits,IntKind.signed];omega
  simp[go_sem,convert,this]
 have m:=λa g h=>nD (b.toNat:Int) [45,63,58] (W ⟨g,0,O⟩) g 0 3 3 rfl (by omega) a h;have G:decide ((b.toNat:Int)∈([45,63,58]:List Int))=decide (b.toNat=45):=by
  have bb:=q.2.2.2.1;have a1:b.toNat≠63:=by
   intro e;have:=i b (by rw[d];simp);unfold Tp.plainC at this;simp[e]at this
  rw[Bool.eq_iff_iff];simp
  omega
 rw[G]at m;have a3:s.toList.isEmpty=false:=by
  rw[ByteArray.toList_eq,d];rfl
 have be:(s.toList==s.toList)=true:=by simp
 obtain⟨ad,an,S⟩:=zx3 m L j;have C:b.toNat=45->∃x,c.data.toList[0]? =W x/\Tp.plainC x=true:=by
  intro e;have T:b=45:=UInt8.toNat_inj.1 e;cases t with
  |nil=>exact absurd (by rw[d,T]) f
  |cons x t=>exact⟨x,by rw[r];rfl,i x (by rw[d];simp)⟩
 have a0:=zD C;clear m L j G d o r l k q i D z f C;generalize (b.toNat:Int)=a9 at *
 go_enter func289,ntmps289
 go_wp2_with fail
 go_quiet (fail)
 go_wp2_with fail
 refine(an.out _).mono ?_;rintro e R ⟨rfl,E⟩;have H:Below w.heap.size w R:=by
  have A:=bM (ζ w.heap.size w) nq;rcases E with rfl|rfl
  ·exact A
  ·exact A.drew
 clear E
 go_wp2_with fail
 refine(S.out _).mono ?_;rintro e p ⟨rfl,rfl⟩
 go_wp2_with fail
 refine(ad.out (p.alloc (J #[V .i32 45,V .i32 63,V .i32 58] 21)) p.heap.size (fC p [45,63,58] 21)).mono ?_;rintro e a4 ⟨rfl,rfl⟩;have F:=H.alloc H.size (J #[V .i32 45,V .i32 63,V .i32 58] 21);by_cases f:b.toNat=45
 ·obtain⟨x,n,v⟩:=a0.out f
  have al:=a8 x v;have ab:0 < c.size:=by rw[<-ap];exact(zM.1 n).1
  have a2:∀a,(Instr.index 9 (U c) (V I 0)).run π a=.ok (V .u8 (x.toNat:Int)) a:=by
   intro a;rw[vQ c 0 0 rfl ab a];unfold Ln.nat
   rw[zY,n];rfl
  have bn:c.toList.isEmpty=false:=by
   rw[ByteArray.toList_eq];have:=ap c;cases N:c.data.toList with
   |nil=>rw[N]at this;simp at this;omega
   |cons y u=>rfl
  have a5:((x.toNat:Int)==32)=false:=by rw[beq_eq_false_iff_ne];omega
  have ao:¬(x.toNat:Int)=32:=by omega
  rw[decide_eq_true f];generalize (x.toNat:Int)=bq at *;clear n v al
  go_wp2_with fail
  go_ret
  exact⟨by simp[ao],F⟩
 ·rw[decide_eq_false f]
  go_wp2_with fail
  go_ret
  exact⟨rfl,F⟩
theorem re(s:ByteArray)(j:Bool)(k:s.size<=100000)(b:Tp.okPlain s.data.toList=true)(w:World)(m:Glob w):Calls π 267 #[U s,β j] w λe w'=>e=ρ (β true)/\Below w.heap.size w w':=by
 obtain⟨c,a,q⟩:=ci _ b;have i:Ln.right s.data.toList=true:=Ln.aH _ (λn z=>(a8 n (c n z)).1);have f:=bt s (by omega) w m;rw[i]at f;have t:=mH s k b;have g:s.size≠0:=by
  intro e;rw[<-ap]at e;exact a (List.eq_nil_of_length_eq_zero e)
 have r:=pf s j k c g;have A:s.toList.isEmpty=false:=by
  rw[ByteArray.toList_eq];cases o:s.data.toList with
  |nil=>exact absurd o a
  |cons y u=>rfl
 clear i b c a q g m
 go_enter func267,ntmps267
 go_wp2_with fail
 refine f.mono ?_;rintro e p ⟨rfl,d⟩
 go_wp2_with fail
 refine(t p).mono ?_;rintro e v ⟨rfl,l⟩
 go_wp2_with fail
 refine(r v).mono ?_;rintro e C ⟨rfl,x⟩
 go_wp2_with fail
 go_ret
 exact⟨rfl,(d.trans (l.mono d.size)).trans (x.mono (Nat.le_trans d.size l.size))⟩
end Go.Proofs.YtbikgdhbiebhcaaGreatDoor
