/- Part 6. -/
import Derived.Test.YtbikgdhbiebhcaaGreatDoorW05
import Derived.Deep.AppendLies
set_option linter.unusedVariables false
set_option linter.unusedSimpArgs false
set_option maxRecDepth 100000
set_option maxHeartbeats 2000000
open Go.Value renaming int -> V, string -> U, slice -> Y, pointer -> Z, func -> φ, agg -> γ, bool -> β
open Go.IntKind renaming i64 -> I
open Option renaming some -> W, none -> O
open Go.Obj renaming cells -> J
open Go.Ending renaming returned -> ρ
open Go.Proofs.Tryz renaming prog -> π
open Nat renaming le_refl -> η
open Go.RowKit.Below renaming refl -> ζ
namespace Go.Proofs.YtbikgdhbiebhcaaGreatDoor
open Go.RowKit Tryz
section
attribute [local go_sem] ak
attribute [local go_sem] Oper.semAt_some
theorem ri(n:Nat)(t:∀m,m < n->zt m)(d g:Nat)(v:Value)(c:List Tp.Tk)(b:Nat)(z:10<=d)(s l:Nat)(p q:Nat)(x:Tp.Tree)(y:AS n (b+1) c p x q)(G:b<=100)(a:World)(A:yg a d g v c p)(k:a.heap[s]? =W (J #[Z (W ⟨d,0,O⟩)] 427 (0,0)))(i:a.heap[l]? =W (J #[V I (b:Int)] 3 (0,0)))(D:Glob a):
 Calls π 313 #[Z (W ⟨s,0,O⟩),Z (W ⟨l,0,O⟩)] a (Ak d g v c q a x):=by
 obtain⟨L,P,m,E,o⟩:=y;have f:=t m E d g v c p (b+1) x _ a A D z o;rw[zZ,show c.length - (c.length - q)=q by omega]at f;have N:=zF k 0 rfl;have M:=zF i 0 rfl;have r:=zD f;clear f k i o t
 go_enter func313,ntmps313
 go_wp2_with fail
 rw[show ((b:Int)+1)=((b+1:Nat):Int)by omega];refine r.out.mono ?_;rintro e H ⟨⟨w,rfl,j⟩,u,F⟩;have C:=zD j;clear j r
 go_wp2_with fail
 go_ret
 exact⟨⟨w,rfl,C.out⟩,u,F⟩
def LR(d:Nat)(x:Tp.Tree)(c:Value)(b:NS)(e:World):Prop:=∃a:List Value,c=.iface 487 (γ a.toArray)/\xS e b x a/\∀k,b k->d<=k
structure LsI(w:World)(r:Nat)(vs:List Tp.Tree)(t:Nat)(F:NS)(W:World):Prop where
 lt:∀k,F k->k < W.heap.size
 fr:∀k,F k->w.heap.size<=k
 two:F (w.heap.size+2)
 three:F (w.heap.size+3)
 res:W.heap[w.heap.size+2]? =some (J #[.nilIface] 433 (0,0))
 row:∃dv cs KF,W.heap[w.heap.size+3]? =some (J #[V I 1,U ⟨#[]⟩,V I 0,V I 0,U ⟨#[]⟩,Y O 0 0,dv] 78 (0,0))/\W.ownsRow (w.heap.size+9) 78 7 dv t cs/\(∀k,dv.ownBlock=some k->F k)/\xU W KF (vs.take t) cs/\∀k,KF k->F k/\k≠w.heap.size+2/\k≠w.heap.size+3/\dv.ownBlock≠some k
 far:Far (·=r) w W
 box:W.heap[w.heap.size]? =some (J #[Z (some ⟨r,0,O⟩)] 427 (0,0))
theorem am{D:Nat->Prop}{w w':World}{base:Nat}{e:TypeId}{size:Nat}{v:Value}{n:Nat}{xs:List Value}(a:w.ownsRow base e size v n xs)(f:Far D w w')(c:∀k,v.ownBlock=W k->¬D k):w'.ownsRow base e size v n xs:=by
 refine⟨a.1,?_⟩;rcases a.2 with j|⟨g,cap,d,rfl,b,i,rest⟩
 ·exact .inl j
 ·exact .inr ⟨g,cap,d,rfl,b,f.heap i (c g rfl),rest⟩
theorem LsI.step{w:World}{f:Nat}{j:List Tp.Tree}{t:Nat}{g D:NS}{i p:World}(d:LsI w f j t g i)(a:Far D i p)(F:f < w.heap.size)(b:∀k,D k->¬g k/\(k=f\/w.heap.size+7<=k)):LsI w f j t g p:=by
 obtain⟨y,q,o,l,A,⟨r,x,s,C,z,n,E,m⟩,u,v⟩:=d;exact⟨λk c=>zK (y k c) a.size,q,o,l,a.heap A (λe=>(b _ e).1 o),⟨r,x,s,a.heap C (λe=>(b _ e).1 l),am z a (λk c e=>(b _ e).1 (n k c)),n,xU.far a (λk c _ e=>(b _ e).1 (m k c).1) _ _ E,m⟩,u.step a (λk c e=>by rcases (b _ e).2 with d|d;exact d;omega),a.heap v (λe=>by rcases (b _ e).2 with d|d<;>omega)⟩
theorem aU{w:World}{base:Nat}{e:TypeId}{size g n cap:Nat}{xs:List Value}(a:w.ownsRow base e size (Y (W ⟨g,0,O⟩) n cap) n xs):∃b,w.heap[g]? =W (J b e (0,0)):=by
 rcases a.2 with ⟨a,_⟩|⟨f,d,b,a,_,c,_⟩
 ·cases a
 ·injection a with a
  injection a with a;injection a with a;subst a;exact⟨b,c⟩
theorem aT{w:World}{base:Nat}{e:TypeId}{size g n cap:Nat}{xs:List Value}(c:w.ownsRow base e size (Y (W ⟨g,0,O⟩) n cap) n xs)(i:Nat)(b:Value):(w.setCell ⟨g,i,O⟩ b).ownsRow base e size (Y (W ⟨g,0,O⟩) n cap) n (xs.set i b):=by
 refine⟨by rw[List.length_set];exact c.1,?_⟩;rcases c.2 with ⟨c,_⟩|⟨q,p,l,a,j,d,m,f,k,o⟩
 ·cases c
 ·injection a with a e1 e2
  injection a with a;injection a with a;subst a e2;refine .inr ⟨g,cap,l.setIfInBounds i b,rfl,j,ai d i b,m,f,by rw[Array.size_setIfInBounds];exact k,?_⟩;rw[Array.toList_setIfInBounds,<-o,List.take_set]
theorem bP{w:World}{base:Nat}{e:TypeId}{g n cap i:Nat}{a:List Value}{u q o t p m s:Value}(j k l b d c f:Value)(v:w.ownsRow base e 7 (Y (W ⟨g,0,O⟩) n cap) n (a++[u,q,o,t,p,m,s]))(r:a.length=i):
 (((((((w.setCell ⟨g,i,O⟩ j).setCell ⟨g,i+1,O⟩ k).setCell ⟨g,i+2,O⟩ l).setCell ⟨g,i+3,O⟩ b).setCell ⟨g,i+4,O⟩ d).setCell ⟨g,i+5,O⟩ c).setCell ⟨g,i+6,O⟩ f).ownsRow base e 7 (Y (W ⟨g,0,O⟩) n cap) n (a++[j,k,l,b,d,c,f]):=by
 have:=aT (aT (aT (aT (aT (aT (aT v i j) (i+1) k) (i+2) l) (i+3) b) (i+4) d) (i+5) c) (i+6) f;subst r
 simpa [List.set_append_right]using this
theorem dL{w:World}{base:Nat}{e:TypeId}{g n cap i:Nat}{l:List Value}{p k d o f c m:Value}(t:w.ownsRow base e 7 (Y (W ⟨g,0,O⟩) n cap) n (l++[p,k,d,o,f,c,m]))(r:l.length=i):
 w.cell? ⟨g,i,O⟩=W p/\w.cell? ⟨g,i+1,O⟩=W k/\w.cell? ⟨g,i+2,O⟩=W d/\w.cell? ⟨g,i+3,O⟩=W o/\w.cell? ⟨g,i+4,O⟩=W f/\w.cell? ⟨g,i+5,O⟩=W c/\w.cell? ⟨g,i+6,O⟩=W m:=by
 have a:∀(j:Nat) (b:Value),(l++[p,k,d,o,f,c,m])[j]? =W b->w.cell? ⟨g,j,O⟩=W b:=λj b s=>by
  have:=t.cells (g:=g) rfl j b s;have q:(⟨g,0,O⟩:Addr).add j=⟨g,j,O⟩:=by unfold Addr.add;split<;>simp_all
  rwa [q]at this
 subst r;refine⟨a _ _ ?_,a _ _ ?_,a _ _ ?_,a _ _ ?_,a _ _ ?_,a _ _ ?_,a _ _ ?_⟩<;>simp[zV]
theorem cx{w:World}{l:Nat}{T:TypeId}{e n:Nat}{v:Value}{b:List Value}(i:w.ownsRow l T e v n b):Row w (λk=>v.ownBlock=W k) n v b:=by
 obtain⟨d,g,o,cap,c,j,m,a⟩:=az i;refine⟨d,g,o,cap,c,j,λf=>?_,a⟩;rw[c,(a f).1];rfl
theorem eB{e:Func}{a:Tmp}(g:e.results=#[.cell a 433])(b:World)(q:Nat)(x:Value)(c:Array Value)(i:b.cell? ⟨q,0,O⟩=W x)(j:c.getD a undef=Z (W ⟨q,0,O⟩))(k:∃T d,x=.iface T d):
 (results e c).run π b=.ok x b:=by
 obtain⟨T,d,rfl⟩:=k;have f:c[a]?.getD undef=Z (W ⟨q,0,O⟩):=by simpa using j
 simp[results,g,f,go_sem,i]
theorem nL:(prog.info? 78).map (λi=>(i.zero,i.size,i.bytes))=W (W (γ #[V I 0,U ⟨#[]⟩,V I 0,V I 0,U ⟨#[]⟩,Y O 0 0,Y O 0 0]),7,104):=by kernel_rfl
theorem fU{α:Type}{one:Nat->α->Nat->Prop}{c:List Tp.Tk}{e:Int}(b:∀p x q,one p x q->p<=q):∀(xs:List α) (p z:Nat),ym one c e p xs z->xs.length+p<=z+1/\p<=z
 | [],p,z,a=>by
  unfold ym at a;obtain⟨_,rfl⟩:=a;simp
 |x::l,p,z,a=>by
  unfold ym at a;obtain⟨_,q,d,a⟩:=a;have:=b _ _ _ d;rw[zO];rcases a with ⟨_,a⟩|⟨_,rfl,rfl⟩
  ·have:=fU b l (q+1) z a
   omega
  ·simp;omega
theorem qw(n:Nat)(hj:∀m,m < n->zt m)(b g:Nat)(v:Value)(y:List Tp.Tk)(i r:Nat)(N:List Tp.Tree)(rest:List Tp.Tk)(w:World)(dn:yg w b g v y i)(S:Glob w)(hv:10<=b)(kr:g < w.heap.size)(la:i < y.length)(hZ:r<=100)(bw:Tp.flist n (r+1) (y.drop (i+1))=W (N,rest)):
 Calls π 296 #[Z (W ⟨b,0,O⟩),V I (r:Int)] w (Ak b g v y (y.length - rest.length) w ⟨1,[],Tp.Sc.null,[],N⟩):=by
 obtain⟨z,hR,e4,eq,js,ga,k4⟩:=gi y n (r+1) n (i+1) N rest (η _) (by omega) bw;have kt:=dn.small;have c1:=dn.lt;have g3:=c1;obtain⟨hS,_⟩:=zM.1 eq;have dv:y.length - rest.length=z+1:=by rw[ga,zZ];omega
 rw[dv];have ls:N.length<=100000:=by have:=(fU (λp x q a=>a.1) _ _ _ e4).1;omega
 obtain⟨T,cv⟩:=dn.blk;have c2:=zF cv 1 rfl;have e7:=ag cv 1;obtain⟨hx,hd,hE,g1,h5⟩:=zx5 dn S hj e4 eq;clear dn S hj e4 eq bw ga dv cv;refine callsIn_wide.1 (callsIn_of_wp_marks (n:=5) func296 rfl trivial (wpIn_wide.2 ?_));simp only[ntmps296,List.size_toArray,zO,List.length_nil,Nat.reduceAdd,Nat.reduceSub,Array.replicate_succ,Array.replicate_zero,List.push_toArray,List.append_toArray,List.nil_append,List.cons_append]
 go_upto_region 1 with (fail)
 have ct:Far xO w (((w.alloc (J #[Z (W ⟨b,0,O⟩)] 427)).alloc (J #[V I (r:Int)] 3)).alloc (J #[.nilIface] 433)):=(((ξ _ w).alloc _).alloc _).alloc _;have b1:(((w.alloc (J #[Z (W ⟨b,0,O⟩)] 427)).alloc (J #[V I (r:Int)] 3)).alloc (J #[.nilIface] 433)).heap[w.heap.size]? =W (J #[Z (W ⟨b,0,O⟩)] 427 (0,0)):=aa _ (aa _ (ah _ _ _ rfl));have dr:(((w.alloc (J #[Z (W ⟨b,0,O⟩)] 427)).alloc (J #[V I (r:Int)] 3)).alloc (J #[.nilIface] 433)).heap[w.heap.size+1]? =W (J #[V I (r:Int)] 3 (0,0)):=aa _ (ah _ _ _ (by simp));have eg:(((w.alloc (J #[Z (W ⟨b,0,O⟩)] 427)).alloc (J #[V I (r:Int)] 3)).alloc (J #[.nilIface] 433)).heap[w.heap.size+1+1]? =W (J #[.nilIface] 433 (0,0)):=ah _ _ _ (by simp);have bn:(((w.alloc (J #[Z (W ⟨b,0,O⟩)] 427)).alloc (J #[V I (r:Int)] 3)).alloc (J #[.nilIface] 433)).heap.size=w.heap.size+3:=by simp
 generalize (((w.alloc (J #[Z (W ⟨b,0,O⟩)] 427)).alloc (J #[V I (r:Int)] 3)).alloc (J #[.nilIface] 433))=df at *;have hC:=hx.out.far ct (λe=>e) (λe=>e)
 replace c2:=ct.at c2 id
 replace e7:=(ct.frozen (p:=⟨b,1,O⟩) c1 (λe=>e)).trans e7
 have d6:=zF b1 0 rfl
 go_upto_region 2 with (fail)
 rw[show ((i:Int)+1)=((i+1:Nat):Int)by omega];have fv:=hC.moved (i+1) (by omega);have hm:Far (·=b) w (df.setCell ⟨b,1,O⟩ (V I ((i+1:Nat):Int))):=Far.setCell (D:=(·=b)) (ct.mono (λ_ _ e=>e.elim)) (p:=⟨b,1,O⟩) (λ_=>rfl) _;have d0:∀(k:Nat) (o:Obj),k≠b->df.heap[k]? =W o->(df.setCell ⟨b,1,O⟩ (V I ((i+1:Nat):Int))).heap[k]? =W o:=λk o c a=>(Below.heap_setCell _ _ _ _ c).trans a
 replace b1:=d0 _ _ (by omega) b1
 replace dr:=d0 _ _ (by omega) dr
 replace eg:=d0 _ _ (by omega) eg
 replace bn:(df.setCell ⟨b,1,O⟩ (V I ((i+1:Nat):Int))).heap.size=w.heap.size+3:=by rw[<-bn];simp[World.setCell]
 clear d0 c2 e7 d6 hC ct;generalize (df.setCell ⟨b,1,O⟩ (V I ((i+1:Nat):Int)))=es at *;have d6:=zF b1 0 rfl
 go_upto_region 4 with (fail)
 have i8:=aK (o:=J #[V I 1,U ⟨#[]⟩,V I 0,V I 0,U ⟨#[]⟩,Y O 0 0,Y O 0 0] 78) (lt_of_heap b1) d6;clear d6
 go_wp2_with fail
 refine(kF b 9 _ ⟨_,_,_,rfl⟩ _).mono ?_;rintro e be ⟨rfl,bx⟩;have fl:(es.alloc (Obj.cells #[V I 1,U ⟨#[]⟩,V I 0,V I 0,U ⟨#[]⟩,Y O 0 0,Y O 0 0] 78)).heap.size=w.heap.size+4:=by simp[bn]
 rw[fl];have ad:Far xO es be:=by rw[bx];exact((((ξ _ es).alloc _).alloc _).alloc _).alloc _
 have hy:be.heap.size=w.heap.size+7:=by rw[bx];simp[bn]
 have hH:be.heap[w.heap.size+3]? =W (J #[V I 1,U ⟨#[]⟩,V I 0,V I 0,U ⟨#[]⟩,Y O 0 0,Y O 0 0] 78 (0,0)):=by rw[bx];exact aa _ (aa _ (aa _ (ah _ _ _ bn.symm)))
 have hg:be.heap[w.heap.size+4]? =W (J #[Z (W ⟨b,0,O⟩)] 427 (0,0)):=by rw[bx];exact aa _ (aa _ (ah _ _ _ fl.symm))
 have g5:be.heap[w.heap.size+4+1]? =W (J #[V I 9] 3 (0,0)):=by rw[bx];exact aa _ (ah _ _ _ (by simp[bn]))
 have gd:be.heap[w.heap.size+4+2]? =W (J #[φ (.func 313) #[] #[Z (W ⟨w.heap.size,0,O⟩),Z (W ⟨w.heap.size+1,0,O⟩)]] 490 (0,0)):=by rw[bx];exact ah _ _ _ (by simp[bn])
 have e9:=ad.heap b1 (λe=>e);have hz:=ad.heap dr (λe=>e);have ho:=ad.heap eg (λe=>e);have hl:=fv.far ad (λe=>e) (λe=>e);have fr:=hm.step ad (λ_ _ e=>e.elim);have hk:=hd.out.far fr (λk c e=>by omega);clear bx fl bn i8 b1 dr eg fv hm ad;have gx:LsI w b N 0 (λk=>k=w.heap.size+2\/k=w.heap.size+3) be:=⟨λk c=>by omega,λk c=>by omega,.inl rfl,.inr rfl,ho,⟨Y O 0 0,[],xO,hH,World.ownsRow_nil _ _ _ _,λk a=>by simp[Value.ownBlock]at a,by rw[List.take_zero];unfold xU;rfl,λ_ a=>a.elim⟩,fr,e9⟩;have f4:∀p x q,AS n (r+1) y p x q->p<=q/\∀f,yg f b g v y p->AD [(w.heap.size+4,J #[Z (W ⟨b,0,O⟩)] 427 (0,0)),(w.heap.size+4+1,J #[V I 9] 3 (0,0)),(w.heap.size+4+2,J #[φ (.func 313) #[] #[Z (W ⟨w.heap.size,0,O⟩),Z (W ⟨w.heap.size+1,0,O⟩)]] 490 (0,0)),(w.heap.size,J #[Z (W ⟨b,0,O⟩)] 427 (0,0)),(w.heap.size+1,J #[V I (r:Int)] 3 (0,0))] f->Glob f->Calls π 313 #[Z (W ⟨w.heap.size,0,O⟩),Z (W ⟨w.heap.size+1,0,O⟩)] f λe ab=>∃T bs,e=ρ (.iface T (γ bs))/\(T=487\/T=496)/\LR w.heap.size x (.iface T (γ bs)) (λk=>f.heap.size<=k/\k < ab.heap.size) ab/\yg ab b g v y q/\Far (·=b) f ab:=λp x q hp=>⟨hp.1,λf s c S=>by
  refine(ri n hE.out b g v y r hv w.heap.size (w.heap.size+1) p q x hp hZ f s (c (w.heap.size,J #[Z (W ⟨b,0,O⟩)] 427 (0,0)) (by simp)) (c (w.heap.size+1,J #[V I (r:Int)] 3 (0,0)) (by simp)) S).mono ?_;rintro e ab ⟨⟨bs,rfl,F⟩,hQ,b4⟩;have kd:w.heap.size<=f.heap.size:=Nat.le_of_lt (lt_of_heap (c (w.heap.size,J #[Z (W ⟨b,0,O⟩)] 427 (0,0)) (by simp)));exact⟨487,_,rfl,.inl rfl,⟨bs,rfl,xS.mono (λk ka h9=>⟨ka,h9⟩) _ _ F,λk a=>Nat.le_trans kd a.1⟩,hQ,b4⟩⟩
 have gk:=ik 313 (.inl rfl) (AS n (r+1) y) (LR w.heap.size) (λx cb al D f ab a l hP=>by
  obtain⟨bs,rfl,F,cv⟩:=a;exact⟨bs,rfl,xS.far l (λk a _=>hP k a) _ _ F,cv⟩) b g v y 9 N (i+1) z w.heap.size (w.heap.size+1) (w.heap.size+4) (w.heap.size+4+1) (w.heap.size+4+2) (r:Int) _ rfl (λp s=>by
   simp only[List.mem_cons,List.mem_nil_iff,or_false]at s;rcases s with rfl|rfl|rfl|rfl|rfl<;>exact⟨by simp only;omega,by simp only;omega⟩) f4 g1.out hv be (by omega) (by
   intro p s;simp only[List.mem_cons,List.mem_nil_iff,or_false]at s;rcases s with rfl|rfl|rfl|rfl|rfl
   ·exact hg
   ·exact g5
   ·exact gd
   ·exact e9
   ·exact hz) hl hk
 obtain⟨kf,a0,h6⟩:=zx3 gx hy gk;clear gx hy gk f4 e9 hz ho hH hg g5 gd fr hk hl hx hd hE g1
 go_wp2_with fail
 refine wpIn_wide.1 (aC (n:=5) (gf:=326) (lb:=#[Z (W ⟨w.heap.size+4,0,O⟩),Z (W ⟨w.heap.size+4+1,0,O⟩),Z (W ⟨w.heap.size+4+2,0,O⟩)]) rfl (λargs wx=>kT args wx)
  h6.out (λk e=>by have:=a0.out;omega) (λk e=>by
   have:=a0.out;rcases e with a|a|⟨p,s,rfl⟩
   ·omega
   ·omega
   ·simp only[List.mem_cons,List.mem_nil_iff,or_false]at s
    rcases s with rfl|rfl|rfl|rfl|rfl<;>simp only<;>omega) (λt v al f a=>by obtain⟨x,cb,_,rfl,_⟩:=a;rfl)
  (LsI w b N) (λ_ _ _=>False) (λk=>k=w.heap.size+2\/k=w.heap.size+3) (λk a=>by
   have:=a0.out;refine⟨by omega,?_,by omega,by omega,λ_=>by omega⟩;rintro (it|it|⟨p,s,rfl⟩)
   ·omega
   ·omega
   ·simp only[List.mem_cons,List.mem_nil_iff,or_false]at s
    rcases s with rfl|rfl|rfl|rfl|rfl<;>simp only at a<;>omega) kf.out ?hI (λ_ _ _ _ a _=>a) (λ_ _ _ _=>trivial) ?hFin ?round ?done (λ_ _ _ a=>a.elim))
 case hI=>
  intro t R f ab a l;exact a.step l c1 (λk e=>by have:=a0.out;exact⟨e.1,by rcases e.2 with a|a<;>omega⟩)
 case hFin=>
  intro f ab a l;exact a.far l (λe=>by have:=a0.out;omega) (λe=>by have:=a0.out;omega)
 case round=>
  rintro t R al lr f K kn c1 hI ⟨x,cb,f7,rfl,bs,rfl,F,ac⟩ S a2 d;obtain⟨k,bb,bm,ao,a3,a4,a5,bk,ba,a6,av,rfl⟩:=F.form;have k3:=pY (γ #[V I k,U bb,V I bm,V I ao,U a3,Y a4 a5 bk,Y ba a6 av]);have en:=a0.out;rw[en]at S a2 c1
  gi_wp2
  refine d _ _ (ξ _ f) ?_;intro M c3 kk h3;rw[en]at c3;have kv:=c3.size;have he:=hI.step c3 g3 (λk e=>⟨λa=>(a2 k a).2.1 e,by omega⟩);have fG:=xS.far c3 (λk a _ e=>(S k a).2.2.1 e) _ _ F;have g6:∀k,al k->¬R k/\k < M.heap.size/\w.heap.size<=k:=λk a=>⟨(S k a).1,by have:=(S k a).2.2.2;omega,ac k a⟩;obtain⟨a9,gb,ha,i4⟩:=zx4 g6 fG he f7;clear hI F S a2 d c3 kk h3 f7 he fG g6
  gi_wp2_with fail
  have c5:Far xO M (M.alloc (J #[.nilIface] 436)):=(ξ _ M).alloc _;have h4:=ha.out.step c5 g3 (λk e=>e.elim);have f5:=xS.far c5 (λk _ _ e=>e) _ _ gb.out;have hK:=c5.size;clear ha gb;have h2:=c5;clear c5;generalize (M.alloc (J #[.nilIface] 436))=P at *;obtain⟨ch,cf,c0,ck,da,⟨bD,c9,b9,E,X,a1,b2,G⟩,dp,ds⟩:=h4;obtain⟨C,A,rfl⟩:∃C A,bD=Y C t A:=by
   rcases X.2 with ⟨bR,hB⟩|⟨hT,h1,ex,bR,_⟩
   ·exact⟨O,0,by rw[bR,hB]⟩
   ·exact⟨_,_,bR⟩
  have b5:=zF E 6 rfl;obtain⟨h7,hX,h0,kb,i1⟩:=info_parts nL;refine aN (λw'=>w'.cell? ⟨w.heap.size+3,6,O⟩=W (Y C t A)) [7,8,9,10] (by kernel_rfl) (by kernel_rfl) (λa=>by obtain⟨_,_,a⟩:=a;exact a) ?_;refine aJ (by kernel_rfl) (λ_ _ _ _ a=>a) b5 7 [0,1,2,4] _ _ (by kernel_rfl) ?_;iterate 4 (refine xT.take (v:=?_) rfl (by kernel_rfl) ?_ ?_;rotate_left;·(intro h8 fn;(try dsimp only at fn);go_simp;try with_reducible rfl);try go_frame)
  refine xT.done ?_;try dsimp only
  have k2:=pQ (γ #[V I k,U bb,V I bm,V I ao,U a3,Y a4 a5 bk,Y ba a6 av]);refine aq [3,5] ?_;have lc:=kR;refine aj rfl (λK d=>?_) (aj rfl (λK d=>?_) xQ.nil)
  go_simp
  refine(iL k bm ao bb a3 a4 ba a5 bk a6 av _).mono ?_;rintro e c6 ⟨rfl,cm⟩;have d3:Far xO P c6:=((ξ _ P).drew).below cm;clear cm;refine d.out _ _ (λ_=>(d3.at b5 id)) ?_;clear d K;try go_frame
  refine aq [5] ?_;refine aj rfl (λK d=>?_) xQ.nil
  go_simp
  refine d.out _ _ (λ_=>((d3.alloc _).at b5 id)) ?_;clear d K;try go_frame
  have L:Far xO P (c6.alloc (J #[V I 0,U ⟨#[]⟩,V I 0,V I 0,U ⟨#[]⟩,Y O 0 0,Y O 0 0] 78)):=d3.alloc _;have b8:=af c6 (J #[V I 0,U ⟨#[]⟩,V I 0,V I 0,U ⟨#[]⟩,Y O 0 0,Y O 0 0] 78);obtain⟨an,cc⟩:∃an,c6.heap.size=an:=⟨_,rfl⟩;rw[cc]at b8 ⊢;clear cc d3;generalize (c6.alloc (J #[V I 0,U ⟨#[]⟩,V I 0,V I 0,U ⟨#[]⟩,Y O 0 0,Y O 0 0] 78))=cl at *
  rotate_left
  go_simp
  refine d.out _ _ (λ_=>((((ξ xO P).drew).alloc _).at b5 id)) ?_;clear d K;try go_frame
  refine aq [3] ?_;refine aj rfl (λK d=>?_) xQ.nil
  go_simp
  refine(iL k bm ao bb a3 a4 ba a5 bk a6 av _).mono ?_;rintro e cl ⟨rfl,cm⟩;have L:Far xO P cl:=(((ξ _ P).drew).alloc _).below cm;have b8:=(cm.block P.heap.size (by simp)).trans (af P (J #[V I 0,U ⟨#[]⟩,V I 0,V I 0,U ⟨#[]⟩,Y O 0 0,Y O 0 0] 78));clear cm;obtain⟨an,cc⟩:∃an,P.heap.size=an:=⟨_,rfl⟩;have l0:=hK;rw[cc]at b8;refine d.out _ _ (λ_=>(L.at b5 id)) ?_;clear d K;try go_frame
  rw[cc];clear cc;all_goals (
   have kl:=zD L;have f0:=L.at b5 (λe=>e);have er:=am X L (λ_ _ e=>e);have hS:=lt_of_heap b8;have lt:=L.size;have f6:∀(j:Nat) (cb:Value),[Value.int I 0,U ⟨#[]⟩,V I 0,V I 0,U ⟨#[]⟩,Y O 0 0,Y O 0 0][j]? =W cb->cl.cell? ((⟨an,0,O⟩:Addr).add j)=W cb:=by
    intro j cb dv;have i2:(⟨an,0,O⟩:Addr).add j=⟨an,j,O⟩:=by unfold Addr.add;split<;>simp_all
    rw[i2,ae b8 j]
    simpa using dv
   have hL:t+1<=maxLen:=by unfold maxLen;omega
   have hJ:w.heap.size+9<=cl.heap.size:=by omega
   refine aq [6] ?_;refine aj rfl (λK d=>?_) xQ.nil;refine wp_append_lies cl (.tmp 34) (.tmp 38) 76 rfl (w.heap.size+9) 78 h7 _ 7 104 underlying76 hX h0 kb i1 rfl (by decide) (Y C t A) t c9 rfl er ⟨an,0,O⟩ 1 1 [V I 0,U ⟨#[]⟩,V I 0,V I 0,U ⟨#[]⟩,Y O 0 0,Y O 0 0] rfl rfl f6 (by simp[Value.oneCell']) (by decide) hL (by omega) hJ cl.heap.size rfl ?_;intro gg cap w5 db co g0 i3;have d4:=er.lt;have l1:=(db.lt gg rfl).1;have ky:=co.cell f0 (λe=>by have a:=(d4 _ e.symm).1;dsimp only at a;omega);refine d.out _ _ (λ_=>(co.cell f0 (λe=>by have a:=(d4 _ e.symm).1;dsimp only at a;omega))) ?_;clear d K;try go_frame
   have le:(0:Int)<=(t:Int):=by omega
   have k6:(t:Int) < (t:Int)+1:=by omega
   refine ee (by kernel_rfl) (λ_ _ _ _ a=>a) 2 [7,9] _ _ (by kernel_rfl) ?_;iterate 2 (refine xT.take (v:=?_) rfl (by kernel_rfl) ?_ ?_;rotate_left;·(intro h8 fn;(try dsimp only at fn);go_simp;try with_reducible rfl);try go_frame)
   refine xT.done ?_;try dsimp only
   obtain⟨ex,u⟩:=aU db;have hb:=ag u (t * 7);have hD:=ag u (t * 7+1);have hG:=ag u (t * 7+2);have f8:=ag u (t * 7+3);have g2:=ag u (t * 7+4);have gl:=ag u (t * 7+5);have gc:=ag u (t * 7+6);obtain⟨hn,hh,g8,f1,fR,hi,hs⟩:=dL db X.1;have c4:w5.heap[w.heap.size+3]? =W (J #[V I 1,U ⟨#[]⟩,V I 0,V I 0,U ⟨#[]⟩,Y O 0 0,Y C t A] 78 (0,0)):=(co.block _ (lt_of_heap (L.heap E (λe=>e))) (λe=>by have a:=(d4 _ e.symm).1;omega)).trans (L.heap E (λe=>e));have ks:=ag c4 6;have d1:w.heap.size+3≠gg:=by omega
   have ge:gg≠w.heap.size+3:=by omega
   have kc:∀(f:World),Far (·=gg) w5 f->f.frozen? ⟨w.heap.size+3,6,O⟩=false/\f.cell? ⟨w.heap.size+3,6,O⟩=W (Y C t A):=λf l=>⟨ag (l.heap c4 d1) 6,ae (l.heap c4 d1) 6⟩;have e2:gg < M.heap.size->R gg:=λa=>by
    rcases g0 with e|e
    ·exact a1 _ e
    ·omega
   have hq:Far R M w5:=((h2.trans L).mono (D':=R) (λ_ _ e=>e.elim)).grown co (λk e _=>a1 k e);have gr:∀H:World,H.heap[w.heap.size+3]? =W (J #[V I 1,U ⟨#[]⟩,V I 0,V I 0,U ⟨#[]⟩,Y O 0 0,Y (W ⟨gg,0,O⟩) (t+1) cap] 78 (0,0))->H.ownsRow (w.heap.size+9) 78 7 (Y (W ⟨gg,0,O⟩) (t+1) cap) (t+1) (c9++[V I k,U bb,V I bm,V I ao,U a3,Y a4 a5 bk,Y ba a6 av])->Far (λk=>k=gg\/k=w.heap.size+3) w5 H->
    ∃hr,LsI w b N (t+1) hr H/\Far R M H/\∀k,hr k->(R k\/al k\/f.heap.size<=k)/\(True->k < H.heap.size):=by
    intro H hW hV l;have f3:Far R M H:=hq.step l (λk c e=>by
     rcases e with rfl|rfl
     ·exact e2 c
     ·exact ck)
    have ca:Far (λk=>k=w.heap.size+3\/k=gg\/(Value.slice C t A).ownBlock=W k) P H:=((L.mono (λ_ _ e=>e.elim)).grown co (λk e _=>.inr (.inr e))).step l (λk _ e=>by rcases e with e|e;exact .inr (.inl e);exact .inl e);have e1:∀k,(k=w.heap.size+3\/k=gg\/(Value.slice C t A).ownBlock=W k)->w.heap.size+3=k\/w.heap.size+9<=k:=λk a=>by
     rcases a with a|a|a
     ·exact .inl a.symm
     ·exact .inr (by omega)
     ·exact .inr (d4 k a).1
    have ht:∀k,b9 k->gg≠k:=λk c e=>by
     rcases g0 with hw|hw
     ·exact(G k c).2.2.2 (e ▸ hw)
     ·have:=ch k (G k c).1;omega
    have fz:∀k,al k->gg≠k:=λk c e=>(a9.out k c).1 (e ▸ e2 (e ▸ (a9.out k c).2.1));have ac:∀k,al k->k≠w.heap.size+2/\k≠w.heap.size+3/\(Value.slice C t A).ownBlock≠W k:=λk c=>⟨λe=>(a9.out k c).1 (e ▸ c0),λe=>(a9.out k c).1 (e ▸ ck),λe=>(a9.out k c).1 (a1 k e)⟩;have j9:xU H (λk=>b9 k\/al k) (N.take (t+1)) (c9++[V I k,U bb,V I bm,V I ao,U a3,Y a4 a5 bk,Y ba a6 av]):=by
     rw[zG,i4.out];exact xU.snoc (xS.mono (λ_ a _=>.inr a) _ _ (xS.far ca (λk c _ e=>by
      rcases e with e|e|e
      ·exact(ac k c).2.1 e
      ·exact fz k c e.symm
      ·exact(ac k c).2.2 e) _ _ f5)) _ _ (xU.mono (λ_ a _=>.inl a) _ _ (xU.far ca (λk c _ e=>by
      rcases e with e|e|e
      ·exact(G k c).2.2.1 e
      ·exact ht k c e.symm
      ·exact(G k c).2.2.2 e) _ _ b2))
    have ln:=f3.size;have k1:=ca.size;have hY:gg < H.heap.size:=zK i3 l.size;refine⟨λk=>R k\/al k\/(M.heap.size<=k/\k < H.heap.size),⟨?_,?_,.inl c0,.inl ck,ca.heap da (λe=>by rcases e1 _ e with a|a<;>omega),⟨_,_,λk=>b9 k\/al k,hW,hV,?_,j9,?_⟩,dp.step ca (λk c e=>by rcases e1 _ e with a|a<;>omega),ca.heap ds (λe=>by rcases e1 _ e with a|a<;>omega)⟩,f3,?_⟩
    ·rintro k (a|a|a)
     ·have:=ch k a;omega
     ·have:=(a9.out k a).2.1;omega
     ·exact a.2
    ·rintro k (a|a|a)
     ·exact cf k a
     ·exact(a9.out k a).2.2
     ·have:=a.1;omega
    ·intro k e
     injection e with e;dsimp only at e
     subst e;rcases Nat.lt_or_ge gg M.heap.size with a|a
     ·exact .inl (e2 a)
     ·exact .inr (.inr ⟨a,hY⟩)
    ·rintro k (a|a)
     ·refine⟨.inl (G k a).1,(G k a).2.1,(G k a).2.2.1,λe=>?_⟩
      injection e with e;exact ht k a e
     ·refine⟨.inr (.inl a),(ac k a).1,(ac k a).2.1,λe=>?_⟩
      injection e with e;exact fz k a e
    ·rintro k (a|a|a)
     ·exact⟨.inl a,λ_=>by have:=ch k a;omega⟩
     ·exact⟨.inr (.inl a),λ_=>by have:=(a9.out k a).2.1;omega⟩
     ·exact⟨.inr (.inr (by omega)),λ_=>a.2⟩
   have e3:=X.1;obtain⟨g7,b3,hc,g4⟩:=zx4 gr db c4 kc;clear gr db c4 u hq L ch cf c0 ck da E X a1 b2 dp G f5 co f6 er b8;have d5:Far (·=gg) w5 (((((((w5.setCell ⟨gg,t * 7,O⟩ (V I k)).setCell ⟨gg,t * 7+1,O⟩ (U bb)).setCell ⟨gg,t * 7+2,O⟩ (V I bm)).setCell ⟨gg,t * 7+3,O⟩ (V I ao)).setCell ⟨gg,t * 7+4,O⟩ (U a3)).setCell ⟨gg,t * 7+5,O⟩ (Y a4 a5 bk)).setCell ⟨gg,t * 7+6,O⟩ (Y ba a6 av)):=(((((((ξ (·=gg) w5).setCell (p:=⟨gg,t * 7,O⟩) (λ_=>rfl) _).setCell (p:=⟨gg,t * 7+1,O⟩) (λ_=>rfl) _).setCell (p:=⟨gg,t * 7+2,O⟩) (λ_=>rfl) _).setCell (p:=⟨gg,t * 7+3,O⟩) (λ_=>rfl) _).setCell (p:=⟨gg,t * 7+4,O⟩) (λ_=>rfl) _).setCell (p:=⟨gg,t * 7+5,O⟩) (λ_=>rfl) _).setCell (p:=⟨gg,t * 7+6,O⟩) (λ_=>rfl) _;refine aq [8,10] ?_;refine aj rfl (λK d=>?_) (aj rfl (λK d=>?_) xQ.nil)
   ·go_simp
    refine d.out _ _ (λa=>absurd (by simp) a) ?_;clear d K;try go_frame
    refine aq [10] ?_;refine aj rfl (λK d=>?_) xQ.nil;have b0:=g4.out _ d5;have f9:=b0.1;have hf:=b0.2;clear b0
    go_simp
    refine d.out _ _ (λa=>absurd (by simp) a) ?_;clear d K;refine aP (by kernel_rfl) ?_ _;exact g7.out _ (ai (d5.heap hc.out d1) 6 _) (am (bP _ _ _ _ _ _ _ b3.out e3) (Far.setCell (D:=(·=w.heap.size+3)) (ξ _ _) (p:=⟨w.heap.size+3,6,O⟩) (λ_=>rfl) _) (λk e a=>by injection e with e;exact ge (e.trans a))) (Far.setCell (D:=λk=>k=gg\/k=w.heap.size+3) (d5.mono (λ_ _ e=>.inl e)) (p:=⟨w.heap.size+3,6,O⟩) (λ_=>.inr rfl) _)
   ·have b0:=g4.out _ (ξ _ w5)
    have f9:=b0.1;have hf:=b0.2;clear b0 d5
    go_simp
    refine d.out _ _ (λa=>absurd (by simp) a) ?_;clear d K;try go_frame
    have e8:Far (·=w.heap.size+3) w5 (w5.setCell ⟨w.heap.size+3,6,O⟩ (Y (W ⟨gg,0,O⟩) (t+1) cap)):=Far.setCell (D:=(·=w.heap.size+3)) (ξ _ _) (p:=⟨w.heap.size+3,6,O⟩) (λ_=>rfl) _;have ei:=am b3.out e8 (λk e a=>by injection e with e;exact ge (e.trans a));have hu:=ai hc.out 6 (Y (W ⟨gg,0,O⟩) (t+1) cap);clear hb hD hG f8 g2 gl gc hn hh g8 f1 fR hi hs f9 hf;obtain⟨dc,ft⟩:∃dc,w5.setCell ⟨w.heap.size+3,6,O⟩ (Y (W ⟨gg,0,O⟩) (t+1) cap)=dc:=⟨_,rfl⟩;rw[ft]at e8 ei hu ⊢;clear ft;obtain⟨ex,u⟩:=aU ei;have hb:=ag u (t * 7);have hD:=ag u (t * 7+1);have hG:=ag u (t * 7+2);have f8:=ag u (t * 7+3);have g2:=ag u (t * 7+4);have gl:=ag u (t * 7+5);have gc:=ag u (t * 7+6);obtain⟨hn,hh,g8,f1,fR,hi,hs⟩:=dL ei e3;refine aq [8] ?_;refine aj rfl (λK d=>?_) xQ.nil
    go_simp
    refine d.out _ _ (λa=>absurd (by simp) a) ?_;clear d K;refine aP (by kernel_rfl) ?_ _;have fs:Far (·=gg) dc (((((((dc.setCell ⟨gg,t * 7,O⟩ (V I k)).setCell ⟨gg,t * 7+1,O⟩ (U bb)).setCell ⟨gg,t * 7+2,O⟩ (V I bm)).setCell ⟨gg,t * 7+3,O⟩ (V I ao)).setCell ⟨gg,t * 7+4,O⟩ (U a3)).setCell ⟨gg,t * 7+5,O⟩ (Y a4 a5 bk)).setCell ⟨gg,t * 7+6,O⟩ (Y ba a6 av)):=(((((((ξ (·=gg) dc).setCell (p:=⟨gg,t * 7,O⟩) (λ_=>rfl) _).setCell (p:=⟨gg,t * 7+1,O⟩) (λ_=>rfl) _).setCell (p:=⟨gg,t * 7+2,O⟩) (λ_=>rfl) _).setCell (p:=⟨gg,t * 7+3,O⟩) (λ_=>rfl) _).setCell (p:=⟨gg,t * 7+4,O⟩) (λ_=>rfl) _).setCell (p:=⟨gg,t * 7+5,O⟩) (λ_=>rfl) _).setCell (p:=⟨gg,t * 7+6,O⟩) (λ_=>rfl) _;exact g7.out _ (fs.heap hu d1) (bP _ _ _ _ _ _ _ ei e3) ((e8.mono (λ_ _ e=>.inr e)).trans (fs.mono (λ_ _ e=>.inl e))))
 case done=>
  rintro R f hI f2 d a2;have en:=a0.out;rw[en]at d a2 ⊢;obtain⟨ch,cf,c0,ck,da,⟨bD,c9,b9,E,X,a1,b2,G⟩,dp,ds⟩:=hI;rw[List.take_length]at b2;have ac:∀k,(b9 k\/bD.ownBlock=W k)->w.heap.size<=k/\k≠w.heap.size+2/\k≠w.heap.size+7:=λk a=>by
   rcases a with a|a
   ·exact⟨cf k (G k a).1,(G k a).2.1,a2 k (G k a).1⟩
   ·exact⟨cf k (a1 k a),by have:=(X.lt k a).1;omega,a2 k (a1 k a)⟩
  have F:xS f (λk=>b9 k\/bD.ownBlock=W k) ⟨1,[],Tp.Sc.null,[],N⟩ [V I 1,U ⟨#[]⟩,V I 0,V I 0,U ⟨#[]⟩,Y O 0 0,bD]:=by
   unfold xS;exact⟨_,bD,c9,rfl,cy _ _,xU.mono (λ_ a _=>.inl a) _ _ b2,(cx X).mono (λ_ a _=>.inr a)⟩
  have e6:=hO b g v y z hR _ _ _ f f2 h5.out (λk a e=>by have:=(ac k a).1;omega) F;rw[js]at e6;obtain⟨C,d2,A,rfl⟩:∃C d2 A,bD=Y C d2 A:=by
   rcases X.2 with ⟨bR,hB⟩|⟨hT,h1,ex,bR,_⟩
   ·exact⟨_,_,_,bR⟩
   ·exact⟨_,_,_,bR⟩
  have i6:=zF ds 0 rfl;have hU:=zF E 0 rfl;have t1:=zF E 1 rfl;have t2:=zF E 2 rfl;have i9:=zF E 3 rfl;have ih:=zF E 4 rfl;have kg:=zF E 5 rfl;have hN:=zF E 6 rfl;obtain⟨hA,e0,e5,b3,i5⟩:=zx5 e6 ac d da dp;clear e6 ac F f2 d ch cf c0 ck da E X a1 b2 dp G ds a2
  go_wp2_with fail
  refine hA.out.mono ?_;rintro e hF ⟨⟨rfl,F⟩,s,l⟩;have b6:=l.heap b3.out (by omega);have c:=l.heap e5.out (by omega);have ad:=i5.out.trans l;have k0:=ag b6 0;have k5:=zF b6 0 rfl;obtain⟨i7,i0,hM,b3,e5⟩:=zx5 F s ad b6 c;clear F s l b6 c ad hA hU t1 t2 i9 ih kg hN i6
  go_wp2_with fail
  have bw:Far (·=w.heap.size+2) hF (hF.setCell ⟨w.heap.size+1+1,0,O⟩ (.iface 487 (γ #[V I 1,U ⟨#[]⟩,V I 0,V I 0,U ⟨#[]⟩,Y O 0 0,Y C d2 A]))):=Far.setCell (D:=(·=w.heap.size+2)) (ξ _ _) (p:=⟨w.heap.size+1+1,0,O⟩) (λ_=>rfl) _;have b6:=ai b3.out 0 (.iface 487 (γ #[V I 1,U ⟨#[]⟩,V I 0,V I 0,U ⟨#[]⟩,Y O 0 0,Y C d2 A]));refine au (q:=w.heap.size+7) rfl (bw.heap e5.out (by omega)) ?_;intro ab b4;have c2:=ae (b4.heap b6 (by omega)) 0;refine⟨_,eB results296 ab (w.heap.size+2) _ _ c2 rfl ⟨_,_,rfl⟩,⟨_,rfl,xS.base (xS.far b4 (λk a _ e=>(e0.out k a).2.2 e) _ _ (xS.far bw (λk a _ e=>(e0.out k a).2.1 e) _ _ i7.out)) (λk a=>(e0.out k a).1)⟩,(i0.out.far bw (by omega) (by omega)).far b4 (by omega) (by omega),(hM.out.step bw (λk c e=>by omega)).step b4 (λk c e=>by omega)⟩
end
def AV(n c:Nat)(a:List Tp.Tk)(p:Nat)(x:Tp.Sc × Tp.Tree)(q:Nat):Prop:=p<=q/\q<=a.length/\∃m b,m < n/\a[p]? =W b/\Tp.fkey b=W x.1/\xY a (p+1) [6]=true/\Tp.fval m c (a.drop (p+2))=W (x.2,a.drop q)
theorem gm(b:List Tp.Tk)(n w:Nat):∀(m p:Nat) (C:List Tp.Sc) (D:List Tp.Tree) (rest:List Tp.Tk),m<=n->p<=b.length->Tp.fdict m w (b.drop p)=W (C,D,rest)->∃xs z t,ym (AV n w b) b 11 p xs z/\xs.map (·.1)=C/\xs.map (·.2)=D/\b[z]? =W t/\t.k=11/\rest=b.drop (z+1)/\p<=z
 |0,p,C,D,rest,_,_,a=>by simp[Tp.fdict]at a
 |m+1,p,C,D,rest,hm,hp,a=>by
  unfold Tp.fdict at a;obtain⟨l,f⟩:∃l,b.drop p=l:=⟨_,rfl⟩;have j:=aV b p [11];have e:=aV b (p+1) [6];have a4:b.drop (p+1)=l.drop 1:=by rw[<-f,List.drop_drop]
  have i:b.drop (p+2)=l.drop 2:=by rw[<-f,List.drop_drop]
  rw[a4]at e;rw[f]at a j
  match l,f,j,e,i,a with
  | [],f,j,e,i,a=>cases a
  |t::u,f,j,e,i,a=>
   have P:p < b.length:=by
    rcases Nat.lt_or_ge p b.length with a|a
    ·exact a
    ·rw[List.drop_eq_nil_of_le a]at f;cases f
   have r:=zW P;rw[f]at r;injection r with hd1 hd2;have S:b[p]? =W t:=by rw[zE P,hd1]
   simp only at a j;by_cases A:t.k=11
   ·rw[if_pos A]at a
    injection a with a;injection a with L a;injection a with G h3;subst L G h3;refine⟨[],p,t,?_,rfl,rfl,S,A,hd2,η _⟩;unfold ym;exact⟨by rw[j,A];rfl,rfl⟩
   ·rw[if_neg A]at a
    have R:xY b p [11]=false:=by rw[j];simp[A]
    cases H:Tp.fkey t with
    |none=>rw[H]at a;simp at a
    |some x=>
    rw[H]at a
    match u,hd2,e,i,a with
    | [],hd2,e,i,a=>simp at a
    |c::s,hd2,e,i,a=>
     simp only[List.drop_succ_cons,List.drop_zero]at a e i;by_cases N:c.k=6
     case neg=>rw[if_pos N]at a;cases a
     rw[if_neg (by simp[N])]at a;have a3:xY b (p+1) [6]=true:=by rw[e];simp[N]
     have a0:p+2<=b.length:=by
      have:=congrArg List.length hd2;rw[zZ]at this;simp at this
      omega
     cases g:Tp.fval m w s with
     |none=>rw[g]at a;cases a
     |some y=>
     obtain⟨v,F⟩:=y;rw[g]at a;have X:=(jm m).1 _ _ _ _ g;rw[<-i]at X g;obtain⟨d,a5⟩:=de b (p+2) F a0 X;obtain⟨q,ao⟩:∃q,b.length - F.length=q:=⟨_,rfl⟩;rw[ao]at d a5;have a6:q<=b.length:=by omega
     have o:=λk=>aV b q [k];rw[<-d]at o
     match F,d,g,o,a with
     | [],d,g,o,a=>cases a
     |y::z,d,g,o,a=>
      have ab:q < b.length:=by
       rcases Nat.lt_or_ge q b.length with a|a
       ·exact a
       ·rw[List.drop_eq_nil_of_le a]at d;cases d
      have r:=zW ab;rw[<-d]at r;injection r with hd1 hd2;have T:AV n w b p (x,v) q:=⟨by omega,a6,m,t,by omega,S,H,a3,by rw[<-d];exact g⟩;simp only at a o;by_cases E:y.k=7
      ·rw[if_pos E]at a
       obtain⟨M,L,G⟩:=zN.1 a;injection G with e1 e2;injection e2 with e2 e3;obtain⟨xs,al,ad,a2,ac,av,an,a9,a1,ba⟩:=gm b n w m (q+1) M.1 M.2.1 M.2.2 (by omega) (by omega) (by rw[<-hd2];exact L);refine⟨(x,v)::xs,al,ad,?_,by rw[<-e1,List.map_cons,ac],by rw[<-e2,List.map_cons,av],an,a9,e3 ▸ a1,by omega⟩;unfold ym;exact⟨R,q,T,.inl ⟨by rw[o];simp[E],a2⟩⟩
      ·rw[if_neg E]at a
       split at a
       ·rename_i h9'
        injection a with a;injection a with e1 e2;injection e2 with e2 e3;subst e1 e2;refine⟨[(x,v)],q,y,?_,rfl,rfl,by rw[zE ab,<-hd1],h9',by rw[<-e3,hd2],by omega⟩;unfold ym;exact⟨R,q,T,.inr ⟨by rw[o];simp[E],rfl,rfl⟩⟩
       ·cases a
theorem sq(n:Nat)(w:∀m,m < n->zt m)(d g:Nat)(v:Value)(c:List Tp.Tk)(b:Nat)(D:10<=d)(u r:Nat)(p q:Nat)(x:Tp.Sc × Tp.Tree)(C:AV n (b+1) c p x q)(N:b<=100)(a:World)(F:yg a d g v c p)(o:a.heap[u]? =W (J #[Z (W ⟨d,0,O⟩)] 427 (0,0)))(i:a.heap[r]? =W (J #[V I (b:Int)] 3 (0,0)))(H:Glob a):
 Calls π 316 #[Z (W ⟨u,0,O⟩),Z (W ⟨r,0,O⟩)] a (A3 d g v c q a x.1 x.2):=by
 obtain⟨R,X,m,E,L,j,k,y,s⟩:=C;have f:=qr m (w m L) d g v c p (b+1) E x.1 x.2 _ a F H D j k y s;rw[zZ,show c.length - (c.length - q)=q by omega]at f;have T:=zF o 0 rfl;have S:=zF i 0 rfl;have t:=zD f;clear f o i s w j k y
 go_enter func316,ntmps316
 go_wp2_with fail
 rw[show ((b:Int)+1)=((b+1:Nat):Int)by omega];refine t.out.mono ?_;rintro e P ⟨⟨A,rfl,l⟩,z,M⟩;have G:=zD l;clear l t
 go_wp2_with fail
 go_ret
 exact⟨⟨A,rfl,G.out⟩,z,M⟩
section
attribute [local go_sem] ak
attribute [local go_sem] Oper.semAt_some
def DR(d:Nat)(x:Tp.Sc × Tp.Tree)(c:Value)(b:NS)(e:World):Prop:=∃a:List Value,c=.iface 496 (γ (V I x.1.k::V I x.1.n::xR x.1.s::a).toArray)/\xS e b x.2 a/\∀k,b k->d<=k
structure DsI(w:World)(r:Nat)(xs:List (Tp.Sc × Tp.Tree))(t:Nat)(F:NS)(W:World):Prop where
 lt:∀k,F k->k < W.heap.size
 fr:∀k,F k->w.heap.size<=k
 two:F (w.heap.size+2)
 three:F (w.heap.size+3)
 res:W.heap[w.heap.size+2]? =some (J #[.nilIface] 433 (0,0))
 row:∃kv dv cs KF,W.heap[w.heap.size+3]? =some (J #[V I 2,U ⟨#[]⟩,V I 0,V I 0,U ⟨#[]⟩,kv,dv] 78 (0,0))/\W.ownsRow (w.heap.size+9) 30 3 kv t (xV ((xs.take t).map (·.1)))/\W.ownsRow (w.heap.size+9) 78 7 dv t cs/\(∀k,dv.ownBlock=some k->F k/\kv.ownBlock≠some k)/\(∀k,kv.ownBlock=some k->F k)/\xU W KF ((xs.take t).map (·.2)) cs/\∀k,KF k->F k/\k≠w.heap.size+2/\k≠w.heap.size+3/\dv.ownBlock≠some k/\kv.ownBlock≠some k
 far:Far (·=r) w W
 box:W.heap[w.heap.size]? =some (J #[Z (some ⟨r,0,O⟩)] 427 (0,0))
theorem DsI.step{w:World}{f:Nat}{xs:List (Tp.Sc × Tp.Tree)}{t:Nat}{g D:NS}{i p:World}(d:DsI w f xs t g i)(b:Far D i p)(G:f < w.heap.size)(c:∀k,D k->¬g k/\(k=f\/w.heap.size+7<=k)):DsI w f xs t g p:=by
 obtain⟨y,q,o,j,A,⟨kv,r,x,s,E,C,z,n,m,F,l⟩,u,v⟩:=d;exact⟨λk a=>zK (y k a) b.size,q,o,j,b.heap A (λe=>(c _ e).1 o),⟨kv,r,x,s,b.heap E (λe=>(c _ e).1 j),am C b (λk a e=>(c _ e).1 (m k a)),am z b (λk a e=>(c _ e).1 (n k a).1),n,m,xU.far b (λk a _ e=>(c _ e).1 (l k a).1) _ _ F,l⟩,u.step b (λk a e=>by rcases (c _ e).2 with d|d;exact d;omega),b.heap v (λe=>by rcases (c _ e).2 with d|d<;>omega)⟩
theorem br{b:World}{z:Nat}{c:List Value}{T:TypeId}(e:b.heap[z]? =W (J c.toArray T (0,0))):∀(j:Nat) (a:Value),c[j]? =W a->b.cell? ((⟨z,0,O⟩:Addr).add j)=W a:=by
 intro j a f;have d:(⟨z,0,O⟩:Addr).add j=⟨z,j,O⟩:=by unfold Addr.add;split<;>simp_all
 rw[d,ae e j]
 simpa using f
theorem ru:(prog.info? 30).map (λi=>(i.zero,i.size,i.bytes))=W (W (γ #[V I 0,V I 0,U ⟨#[]⟩]),3,32):=by kernel_rfl
theorem xc(x:Value)(a:World):(Instr.typeAssert (.iface 496 x) 433 496 false).run π a=.ok x a:=by kernel_rfl
theorem qA(n:Nat)(hM:∀m,m < n->zt m)(f g:Nat)(v:Value)(a3:List Tp.Tk)(i ac:Nat)(e3:List Tp.Sc)(dp:List Tp.Tree)(rest:List Tp.Tk)(w:World)(en:yg w f g v a3 i)(bR:Glob w)(js:10<=f)(m1:g < w.heap.size)(md:i < a3.length)(kg:ac<=100)(c5:Tp.fdict n (ac+1) (a3.drop (i+1))=W (e3,dp,rest)):
 Calls π 297 #[Z (W ⟨f,0,O⟩),V I (ac:Int)] w (Ak f g v a3 (a3.length - rest.length) w ⟨2,[],Tp.Sc.null,e3,dp⟩):=by
 obtain⟨xs,z,kd,g6,h0,h6,gc,ks,h2,ne⟩:=gm a3 n (ac+1) n (i+1) e3 dp rest (η _) (by omega) c5;have l9:=en.small;have eg:=en.lt;have hr:=eg;obtain⟨nn,_⟩:=zM.1 gc;have it:a3.length - rest.length=z+1:=by rw[h2,zZ];omega
 rw[it];have mp:xs.length<=100000:=by have:=(fU (λp x q a=>a.1) _ _ _ g6).1;omega
 obtain⟨T,ca⟩:=en.blk;have ds:=zF ca 1 rfl;have g8:=ag ca 1;obtain⟨hS,hJ,h8,hF,k0,i9⟩:=zx6 en bR hM g6 gc h0;have hv:=zD h6;clear en bR hM g6 gc c5 h2 it ca h0 h6;refine callsIn_wide.1 (callsIn_of_wp_marks (n:=5) func297 rfl trivial (wpIn_wide.2 ?_));simp only[ntmps297,List.size_toArray,zO,List.length_nil,Nat.reduceAdd,Nat.reduceSub,Array.replicate_succ,Array.replicate_zero,List.push_toArray,List.append_toArray,List.nil_append,List.cons_append]
 go_upto_region 1 with (fail)
 have d2:Far xO w (((w.alloc (J #[Z (W ⟨f,0,O⟩)] 427)).alloc (J #[V I (ac:Int)] 3)).alloc (J #[.nilIface] 433)):=(((ξ _ w).alloc _).alloc _).alloc _;have c6:(((w.alloc (J #[Z (W ⟨f,0,O⟩)] 427)).alloc (J #[V I (ac:Int)] 3)).alloc (J #[.nilIface] 433)).heap[w.heap.size]? =W (J #[Z (W ⟨f,0,O⟩)] 427 (0,0)):=aa _ (aa _ (ah _ _ _ rfl));have e6:(((w.alloc (J #[Z (W ⟨f,0,O⟩)] 427)).alloc (J #[V I (ac:Int)] 3)).alloc (J #[.nilIface] 433)).heap[w.heap.size+1]? =W (J #[V I (ac:Int)] 3 (0,0)):=aa _ (ah _ _ _ (by simp));have f1:(((w.alloc (J #[Z (W ⟨f,0,O⟩)] 427)).alloc (J #[V I (ac:Int)] 3)).alloc (J #[.nilIface] 433)).heap[w.heap.size+1+1]? =W (J #[.nilIface] 433 (0,0)):=ah _ _ _ (by simp);have cm:(((w.alloc (J #[Z (W ⟨f,0,O⟩)] 427)).alloc (J #[V I (ac:Int)] 3)).alloc (J #[.nilIface] 433)).heap.size=w.heap.size+3:=by simp
 generalize (((w.alloc (J #[Z (W ⟨f,0,O⟩)] 427)).alloc (J #[V I (ac:Int)] 3)).alloc (J #[.nilIface] 433))=e4 at *;have hW:=hS.out.far d2 (λe=>e) (λe=>e)
 replace ds:=d2.at ds id
 replace g8:=(d2.frozen (p:=⟨f,1,O⟩) eg (λe=>e)).trans g8
 have f0:=zF c6 0 rfl
 go_upto_region 2 with (fail)
 rw[show ((i:Int)+1)=((i+1:Nat):Int)by omega];have an:=hW.moved (i+1) (by omega);have i8:Far (·=f) w (e4.setCell ⟨f,1,O⟩ (V I ((i+1:Nat):Int))):=Far.setCell (D:=(·=f)) (d2.mono (λ_ _ e=>e.elim)) (p:=⟨f,1,O⟩) (λ_=>rfl) _;have ft:∀(k:Nat) (o:Obj),k≠f->e4.heap[k]? =W o->(e4.setCell ⟨f,1,O⟩ (V I ((i+1:Nat):Int))).heap[k]? =W o:=λk o j a=>(Below.heap_setCell _ _ _ _ j).trans a
 replace c6:=ft _ _ (by omega) c6
 replace e6:=ft _ _ (by omega) e6
 replace f1:=ft _ _ (by omega) f1
 replace cm:(e4.setCell ⟨f,1,O⟩ (V I ((i+1:Nat):Int))).heap.size=w.heap.size+3:=by rw[<-cm];simp[World.setCell]
 clear ft ds g8 f0 hW d2;generalize (e4.setCell ⟨f,1,O⟩ (V I ((i+1:Nat):Int)))=g2 at *;have f0:=zF c6 0 rfl
 go_upto_region 4 with (fail)
 have k2:=aK (o:=J #[V I 2,U ⟨#[]⟩,V I 0,V I 0,U ⟨#[]⟩,Y O 0 0,Y O 0 0] 78) (lt_of_heap c6) f0;clear f0
 go_wp2_with fail
 refine(kF f 11 _ ⟨_,_,_,rfl⟩ _).mono ?_;rintro e cl ⟨rfl,c0⟩;have gb:(g2.alloc (J #[V I 2,U ⟨#[]⟩,V I 0,V I 0,U ⟨#[]⟩,Y O 0 0,Y O 0 0] 78)).heap.size=w.heap.size+4:=by simp[cm]
 rw[gb];have b3:Far xO g2 cl:=by rw[c0];exact((((ξ _ g2).alloc _).alloc _).alloc _).alloc _
 have hz:cl.heap.size=w.heap.size+7:=by rw[c0];simp[cm]
 have hY:cl.heap[w.heap.size+3]? =W (J #[V I 2,U ⟨#[]⟩,V I 0,V I 0,U ⟨#[]⟩,Y O 0 0,Y O 0 0] 78 (0,0)):=by rw[c0];exact aa _ (aa _ (aa _ (ah _ _ _ cm.symm)))
 have h5:cl.heap[w.heap.size+4]? =W (J #[Z (W ⟨f,0,O⟩)] 427 (0,0)):=by rw[c0];exact aa _ (aa _ (ah _ _ _ gb.symm))
 have hs:cl.heap[w.heap.size+4+1]? =W (J #[V I 11] 3 (0,0)):=by rw[c0];exact aa _ (ah _ _ _ (by simp[cm]))
 have hE:cl.heap[w.heap.size+4+2]? =W (J #[φ (.func 316) #[] #[Z (W ⟨w.heap.size,0,O⟩),Z (W ⟨w.heap.size+1,0,O⟩)]] 490 (0,0)):=by rw[c0];exact ah _ _ _ (by simp[cm])
 have gx:=b3.heap c6 (λe=>e);have h7:=b3.heap e6 (λe=>e);have hy:=b3.heap f1 (λe=>e);have hw:=an.far b3 (λe=>e) (λe=>e);have hn:=i8.step b3 (λ_ _ e=>e.elim);have hN:=hJ.out.far hn (λk j e=>by omega);clear c0 gb cm k2 c6 e6 f1 an i8 b3;have i3:DsI w f xs 0 (λk=>k=w.heap.size+2\/k=w.heap.size+3) cl:=⟨λk j=>by omega,λk j=>by omega,.inl rfl,.inr rfl,hy,⟨Y O 0 0,Y O 0 0,[],xO,hY,World.ownsRow_nil _ _ _ _,World.ownsRow_nil _ _ _ _,λk a=>by simp[Value.ownBlock]at a,λk a=>by simp[Value.ownBlock]at a,by rw[List.take_zero];unfold xU;rfl,λ_ a=>a.elim⟩,hn,gx⟩;have h1:∀p x q,AV n (ac+1) a3 p x q->p<=q/\∀d,yg d f g v a3 p->AD [(w.heap.size+4,J #[Z (W ⟨f,0,O⟩)] 427 (0,0)),(w.heap.size+4+1,J #[V I 11] 3 (0,0)),(w.heap.size+4+2,J #[φ (.func 316) #[] #[Z (W ⟨w.heap.size,0,O⟩),Z (W ⟨w.heap.size+1,0,O⟩)]] 490 (0,0)),(w.heap.size,J #[Z (W ⟨f,0,O⟩)] 427 (0,0)),(w.heap.size+1,J #[V I (ac:Int)] 3 (0,0))] d->Glob d->Calls π 316 #[Z (W ⟨w.heap.size,0,O⟩),Z (W ⟨w.heap.size+1,0,O⟩)] d λe b1=>∃T c4,e=ρ (.iface T (γ c4))/\(T=487\/T=496)/\DR w.heap.size x (.iface T (γ c4)) (λk=>d.heap.size<=k/\k < b1.heap.size) b1/\yg b1 f g v a3 q/\Far (·=f) d b1:=λp x q hQ=>⟨hQ.1,λd l j bR=>by
  refine(sq n h8.out f g v a3 ac js w.heap.size (w.heap.size+1) p q x hQ kg d l (j (w.heap.size,J #[Z (W ⟨f,0,O⟩)] 427 (0,0)) (by simp)) (j (w.heap.size+1,J #[V I (ac:Int)] 3 (0,0)) (by simp)) bR).mono ?_;rintro e b1 ⟨⟨c4,rfl,a6⟩,k5,c9⟩;have ls:w.heap.size<=d.heap.size:=Nat.le_of_lt (lt_of_heap (j (w.heap.size,J #[Z (W ⟨f,0,O⟩)] 427 (0,0)) (by simp)));exact⟨496,_,rfl,.inr rfl,⟨c4,rfl,xS.mono (λk hm hi=>⟨hm,hi⟩) _ _ a6,λk a=>Nat.le_trans ls a.1⟩,k5,c9⟩⟩
 have i0:=ik 316 (.inr rfl) (AV n (ac+1) a3) (DR w.heap.size) (λx hu cb D d b1 a ab kc=>by
  obtain⟨c4,rfl,a6,ca⟩:=a;exact⟨c4,rfl,xS.far ab (λk a _=>kc k a) _ _ a6,ca⟩) f g v a3 11 xs (i+1) z w.heap.size (w.heap.size+1) (w.heap.size+4) (w.heap.size+4+1) (w.heap.size+4+2) (ac:Int) _ rfl (λp l=>by
   simp only[List.mem_cons,List.mem_nil_iff,or_false]at l;rcases l with rfl|rfl|rfl|rfl|rfl<;>exact⟨by simp only;omega,by simp only;omega⟩) h1 hF.out js cl (by omega) (by
   intro p l;simp only[List.mem_cons,List.mem_nil_iff,or_false]at l;rcases l with rfl|rfl|rfl|rfl|rfl
   ·exact h5
   ·exact hs
   ·exact hE
   ·exact gx
   ·exact h7) hw hN
 obtain⟨l6,cf,kl⟩:=zx3 i3 hz i0;clear i3 hz i0 h1 gx h7 hy hY h5 hs hE hn hN hw hS hJ h8 hF
 go_wp2_with fail
 refine wpIn_wide.1 (aC (n:=5) (gf:=326) (lb:=#[Z (W ⟨w.heap.size+4,0,O⟩),Z (W ⟨w.heap.size+4+1,0,O⟩),Z (W ⟨w.heap.size+4+2,0,O⟩)]) rfl (λargs wx=>kT args wx)
  kl.out (λk e=>by have:=cf.out;omega) (λk e=>by
   have:=cf.out;rcases e with a|a|⟨p,l,rfl⟩
   ·omega
   ·omega
   ·simp only[List.mem_cons,List.mem_nil_iff,or_false]at l
    rcases l with rfl|rfl|rfl|rfl|rfl<;>simp only<;>omega) (λt v cb d a=>by obtain⟨x,hu,_,rfl,_⟩:=a;rfl)
  (DsI w f xs) (λ_ _ _=>False) (λk=>k=w.heap.size+2\/k=w.heap.size+3) (λk a=>by
   have:=cf.out;refine⟨by omega,?_,by omega,by omega,λ_=>by omega⟩;rintro (l4|l4|⟨p,l,rfl⟩)
   ·omega
   ·omega
   ·simp only[List.mem_cons,List.mem_nil_iff,or_false]at l
    rcases l with rfl|rfl|rfl|rfl|rfl<;>simp only at a<;>omega) l6.out ?hI (λ_ _ _ _ a _=>a) (λ_ _ _ _=>trivial) ?hFin ?round ?done (λ_ _ _ a=>a.elim))
 case hI=>
  intro t c2 d b1 a ab;exact a.step ab eg (λk e=>by have:=cf.out;exact⟨e.1,by rcases e.2 with a|a<;>omega⟩)
 case hFin=>
  intro d b1 a ab;exact a.far ab (λe=>by have:=cf.out;omega) (λe=>by have:=cf.out;omega)
 case round=>
  rintro t c2 cb n3 d K m4 eg hI ⟨x,hu,hD,rfl,c4,rfl,a6,a9⟩ bR b6 c;obtain⟨k,N,L,F,G,A,C,P,H,E,M,rfl⟩:=a6.form;obtain⟨SX,fr⟩:∃SX:ByteArray,xR x.1.s=U SX:=⟨_,rfl⟩;rw[fr];have m3:=ux (γ #[V I x.1.k,V I x.1.n,U SX,V I k,U N,V I L,V I F,U G,Y A C P,Y H E M]);have nb:=xc (γ #[V I x.1.k,V I x.1.n,U SX,V I k,U N,V I L,V I F,U G,Y A C P,Y H E M]);have fl:=cf.out;rw[fl]at bR b6 eg
  gi_wp2
  refine c _ _ (ξ _ d) ?_;intro b ei kt la;rw[fl]at ei;have np:=ei.size;have i7:=hI.step ei hr (λk e=>⟨λa=>(b6 k a).2.1 e,by omega⟩);have hB:=xS.far ei (λk a _ e=>(bR k a).2.2.1 e) _ _ a6;have i6:∀k,cb k->¬c2 k/\k < b.heap.size/\w.heap.size<=k:=λk a=>⟨(bR k a).1,by have:=(bR k a).2.2.2;omega,a9 k a⟩;obtain⟨ck,hp,hh,hK⟩:=zx4 i6 hB i7 hD;clear hI a6 bR b6 c ei kt la hD i7 hB i6;have fr:=zD fr
  gi_wp2_with fail
  have fv:Far xO b ((b.alloc (J #[.nilIface] 436)).alloc (J #[V I x.1.k,V I x.1.n,U SX,V I k,U N,V I L,V I F,U G,Y A C P,Y H E M] 496)):=((ξ _ b).alloc _).alloc _;have hG:=hh.out.step fv hr (λk e=>e.elim);have he:=xS.far fv (λk _ _ e=>e) _ _ hp.out;have an:((b.alloc (J #[.nilIface] 436)).alloc (J #[V I x.1.k,V I x.1.n,U SX,V I k,U N,V I L,V I F,U G,Y A C P,Y H E M] 496)).heap[b.heap.size+1]? =W (J #[V I x.1.k,V I x.1.n,U SX,V I k,U N,V I L,V I F,U G,Y A C P,Y H E M] 496 (0,0)):=ah _ _ _ (by simp);have e2:=hh.out.lt;have ka:b.heap.size+2<=((b.alloc (J #[.nilIface] 436)).alloc (J #[V I x.1.k,V I x.1.n,U SX,V I k,U N,V I L,V I F,U G,Y A C P,Y H E M] 496)).heap.size:=by simp
  clear hh hp;obtain⟨r,hL⟩:∃d,((b.alloc (J #[.nilIface] 436)).alloc (J #[V I x.1.k,V I x.1.n,U SX,V I k,U N,V I L,V I F,U G,Y A C P,Y H E M] 496))=d:=⟨_,rfl⟩;rw[hL]at fv hG he an ka ⊢;clear hL;obtain⟨hl,c1,es,df,e0,⟨kv,c3,fG,ex,a2,ad,bn,bm,b2,co,av⟩,d1,dr⟩:=hG;obtain⟨R,S,rfl⟩:∃y u,kv=Y y t u:=by
   rcases ad.2 with ⟨ao,e5⟩|⟨f3,g4,f4,ao,_⟩
   ·exact⟨O,0,by rw[ao,e5]⟩
   ·exact⟨_,_,ao⟩
  obtain⟨y,u,rfl⟩:∃y u,c3=Y y t u:=by
   rcases bn.2 with ⟨ao,e5⟩|⟨f3,g4,f4,ao,_⟩
   ·exact⟨O,0,by rw[ao,e5]⟩
   ·exact⟨_,_,ao⟩
  obtain⟨l2,k6,l1,k3,le⟩:=info_parts nL;obtain⟨hc,g0,hf,hb,gg⟩:=info_parts ru;have ga:∀k,(Value.slice R t S).ownBlock=W k->k < b.heap.size:=λk a=>e2 k (b2 k a);have i1:∀k,(Value.slice y t u).ownBlock=W k->k < b.heap.size:=λk a=>e2 k (bm k a).1;have hC:r.cell? ⟨w.heap.size+3,5,O⟩=W (Y R t S)/\r.cell? ⟨w.heap.size+3,6,O⟩=W (Y y t u)/\r.cell? ⟨b.heap.size+1,0,O⟩=W (V I x.1.k)/\r.cell? ⟨b.heap.size+1,1,O⟩=W (V I x.1.n)/\r.cell? ⟨b.heap.size+1,2,O⟩=W (U SX)/\r.cell? ⟨b.heap.size+1,3,O⟩=W (V I k)/\r.cell? ⟨b.heap.size+1,4,O⟩=W (U N)/\r.cell? ⟨b.heap.size+1,5,O⟩=W (V I L)/\r.cell? ⟨b.heap.size+1,6,O⟩=W (V I F)/\r.cell? ⟨b.heap.size+1,7,O⟩=W (U G)/\r.cell? ⟨b.heap.size+1,8,O⟩=W (Y A C P)/\r.cell? ⟨b.heap.size+1,9,O⟩=W (Y H E M):=⟨ae a2 5,ae a2 6,ae an 0,ae an 1,ae an 2,ae an 3,ae an 4,ae an 5,ae an 6,ae an 7,ae an 8,ae an 9⟩;have bD:∀wx,Far (λk=>(Value.slice R t S).ownBlock=W k\/(Value.slice y t u).ownBlock=W k) r wx->wx.cell? ⟨w.heap.size+3,5,O⟩=W (Y R t S)/\wx.cell? ⟨w.heap.size+3,6,O⟩=W (Y y t u)/\wx.cell? ⟨b.heap.size+1,0,O⟩=W (V I x.1.k)/\wx.cell? ⟨b.heap.size+1,1,O⟩=W (V I x.1.n)/\wx.cell? ⟨b.heap.size+1,2,O⟩=W (U SX)/\wx.cell? ⟨b.heap.size+1,3,O⟩=W (V I k)/\wx.cell? ⟨b.heap.size+1,4,O⟩=W (U N)/\wx.cell? ⟨b.heap.size+1,5,O⟩=W (V I L)/\wx.cell? ⟨b.heap.size+1,6,O⟩=W (V I F)/\wx.cell? ⟨b.heap.size+1,7,O⟩=W (U G)/\wx.cell? ⟨b.heap.size+1,8,O⟩=W (Y A C P)/\wx.cell? ⟨b.heap.size+1,9,O⟩=W (Y H E M):=λwx ab=>by
   have ca:=ab.heap a2 (λe=>by rcases e with e|e;(have:=(ad.lt _ e).1;omega);have:=(bn.lt _ e).1;omega);have l:=ab.heap an (λe=>by rcases e with e|e;(have:=ga _ e;omega);have:=i1 _ e;omega);exact⟨ae ca 5,ae ca 6,ae l 0,ae l 1,ae l 2,ae l 3,ae l 4,ae l 5,ae l 6,ae l 7,ae l 8,ae l 9⟩
  have fn:t+1<=maxLen:=by unfold maxLen;omega
  refine aN (λw'=>w'.cell? ⟨w.heap.size+3,5,O⟩=W (Y R t S)/\w'.cell? ⟨w.heap.size+3,6,O⟩=W (Y y t u)/\w'.cell? ⟨b.heap.size+1,0,O⟩=W (V I x.1.k)/\w'.cell? ⟨b.heap.size+1,1,O⟩=W (V I x.1.n)/\w'.cell? ⟨b.heap.size+1,2,O⟩=W (U SX)/\w'.cell? ⟨b.heap.size+1,3,O⟩=W (V I k)/\w'.cell? ⟨b.heap.size+1,4,O⟩=W (U N)/\w'.cell? ⟨b.heap.size+1,5,O⟩=W (V I L)/\w'.cell? ⟨b.heap.size+1,6,O⟩=W (V I F)/\w'.cell? ⟨b.heap.size+1,7,O⟩=W (U G)/\w'.cell? ⟨b.heap.size+1,8,O⟩=W (Y A C P)/\w'.cell? ⟨b.heap.size+1,9,O⟩=W (Y H E M)) [14,15,16] (by kernel_rfl) (by kernel_rfl) (λa=>by obtain⟨_,_,a⟩:=a;exact a) ?_;refine aJ (by kernel_rfl) (λ_ _ _ _ a=>a) hC 8 [0,1,2,3,6,7,8,9,10] _ _ (by kernel_rfl) ?_;iterate 9 (refine xT.take (v:=?_) rfl (by kernel_rfl) ?_ ?_;rotate_left;·(intro e8 a5;(try dsimp only at a5);(try obtain⟨d5,e1,gr,hj,gk,ha,g3,f7,hk,g5,hd,f6⟩:=a5);go_simp;try with_reducible rfl);try go_frame)
  refine xT.done ?_;try dsimp only
  have e9:Far xO r r.drew:=(ξ _ r).drew;obtain⟨dn,hV⟩:∃d,r.drew=d:=⟨_,rfl⟩;rw[hV]at e9 ⊢;clear hV hC;refine aq [4,11] ?_;refine aj rfl (λK c=>?_) (aj rfl (λK c=>?_) (xQ.nil))
  go_simp
  have bw:=e9.alloc (J #[V I x.1.k,V I x.1.n,U SX] 30);have ba:=af dn (J #[V I x.1.k,V I x.1.n,U SX] 30);refine c.out _ _ (λ_=>bD _ (bw.mono (λk _ e=>e.elim))) ?_;clear c K;try go_frame
  obtain⟨fR,al⟩:∃z,dn.heap.size=z:=⟨_,rfl⟩;rw[al]at ba ⊢;obtain⟨b4,a0⟩:∃d,dn.alloc (J #[V I x.1.k,V I x.1.n,U SX] 30)=d:=⟨_,rfl⟩;rw[a0]at bw ba ⊢;clear a0 al;refine aq [5,11] ?_;refine aj rfl (λK c=>?_) (aj rfl (λK c=>?_) (xQ.nil));have cc:=br ba;have b9:=am ad bw (λ_ _ e=>e);have d0:=bw.size;refine wp_append_lies b4 (.tmp 37) (.tmp 40) 28 rfl (w.heap.size+9) 30 hc _ 3 32 underlying28 g0 hf hb gg rfl (by decide) (Y R t S) t _ rfl b9 ⟨fR,0,O⟩ 1 1 [V I x.1.k,V I x.1.n,U SX] rfl rfl cc (by simp[Value.oneCell']) (by decide) fn (by omega) (by omega) b4.heap.size rfl ?_;intro X dc bx bb a1 be ct;have hg:Far (λk=>(Value.slice R t S).ownBlock=W k) r bx:=(bw.mono (λ_ _ e=>e.elim)).grown a1 (λk e _=>e);have d6:(Value.slice R t S).ownBlock=W X\/r.heap.size<=X:=by
   rcases be with e|e
   ·exact .inl e
   ·exact .inr (by omega)
  clear a1 be cc b9 d0;have bk:=bD _ (hg.mono (λ_ _ e=>.inl e));refine c.out _ _ (λ_=>bk) ?_;clear c K;try go_frame
  refine aJ (by kernel_rfl) (λ_ _ _ _ a=>a) bk 5 [13] _ _ (by kernel_rfl) ?_;iterate 1 (refine xT.take (v:=?_) rfl (by kernel_rfl) ?_ ?_;rotate_left;·(intro e8 a5;(try dsimp only at a5);(try obtain⟨d5,e1,gr,hj,gk,ha,g3,f7,hk,g5,hd,f6⟩:=a5);go_simp;try with_reducible rfl);try go_frame)
  refine xT.done ?_;try dsimp only
  clear bk;refine aq [11] ?_;refine aj rfl (λK c=>?_) xQ.nil
  go_simp
  have b5:=hg.alloc (J #[V I k,U N,V I L,V I F,U G,Y A C P,Y H E M] 78);have s:=af bx (J #[V I k,U N,V I L,V I F,U G,Y A C P,Y H E M] 78);have h4:=bb.alloc (J #[V I k,U N,V I L,V I F,U G,Y A C P,Y H E M] 78);clear bb;have bb:=h4;clear h4;refine c.out _ _ (λ_=>bD _ (b5.mono (λk _ e=>.inl e))) ?_;clear c K;try go_frame
  have d3:=hg.size;obtain⟨g1,al⟩:∃z,bx.heap.size=z:=⟨_,rfl⟩;rw[al]at s ⊢;obtain⟨ch,a0⟩:∃d,bx.alloc (J #[V I k,U N,V I L,V I F,U G,Y A C P,Y H E M] 78)=d:=⟨_,rfl⟩;rw[a0]at b5 s bb ⊢;rw[al]at d3
  replace ct:X < ch.heap.size:=by rw[<-a0];simp;omega
  clear a0 al;have b8:=b5;have a4:∃d,ch=d:=⟨_,rfl⟩;obtain⟨eq,a4⟩:=a4;rw[a4]at b8 bb s ct ⊢;clear a4
  rotate_left
  go_simp
  have bs:=bw.alloc (J #[V I k,U N,V I L,V I F,U G,Y A C P,Y H E M] 78);have s:=af b4 (J #[V I k,U N,V I L,V I F,U G,Y A C P,Y H E M] 78);have j9:=aa (J #[V I k,U N,V I L,V I F,U G,Y A C P,Y H E M] 78) ba;clear ba;have ba:=j9;clear j9;refine c.out _ _ (λ_=>bD _ (bs.mono (λk _ e=>e.elim))) ?_;clear c K;try go_frame
  have d3:=bw.size;obtain⟨g1,al⟩:∃z,b4.heap.size=z:=⟨_,rfl⟩;rw[al]at s ⊢;obtain⟨bx,a0⟩:∃d,b4.alloc (J #[V I k,U N,V I L,V I F,U G,Y A C P,Y H E M] 78)=d:=⟨_,rfl⟩;rw[a0]at bs s ba ⊢;rw[al]at d3;clear a0 al;refine aq [5] ?_;refine aj rfl (λK c=>?_) xQ.nil;have cc:=br ba;have b9:=am ad bs (λ_ _ e=>e);have d0:=bs.size;refine wp_append_lies bx (.tmp 37) (.tmp 40) 28 rfl (w.heap.size+9) 30 hc _ 3 32 underlying28 g0 hf hb gg rfl (by decide) (Y R t S) t _ rfl b9 ⟨fR,0,O⟩ 1 1 [V I x.1.k,V I x.1.n,U SX] rfl rfl cc (by simp[Value.oneCell']) (by decide) fn (by omega) (by omega) bx.heap.size rfl ?_;intro X dc ch bb a1 be ct;have b5:Far (λk=>(Value.slice R t S).ownBlock=W k) r ch:=(bs.mono (λ_ _ e=>e.elim)).grown a1 (λk e _=>e);have d6:(Value.slice R t S).ownBlock=W X\/r.heap.size<=X:=by
   rcases be with e|e
   ·exact .inl e
   ·exact .inr (by omega)
  have dv:=(a1.block _ (lt_of_heap s) (λe=>by have:=(ad.lt _ e.symm).2;have:=ga _ e.symm;omega)).trans s;clear s;have s:=dv;clear dv;clear a1 be cc b9 d0;have bk:=bD _ (b5.mono (λ_ _ e=>.inl e));refine c.out _ _ (λ_=>bk) ?_;clear c K;try go_frame
  refine aJ (by kernel_rfl) (λ_ _ _ _ a=>a) bk 4 [13] _ _ (by kernel_rfl) ?_;iterate 1 (refine xT.take (v:=?_) rfl (by kernel_rfl) ?_ ?_;rotate_left;·(intro e8 a5;(try dsimp only at a5);(try obtain⟨d5,e1,gr,hj,gk,ha,g3,f7,hk,g5,hd,f6⟩:=a5);go_simp;try with_reducible rfl);try go_frame)
  refine xT.done ?_;try dsimp only
  clear bk;have b8:=b5;have a4:∃d,ch=d:=⟨_,rfl⟩;obtain⟨eq,a4⟩:=a4;rw[a4]at b8 bb s ct ⊢;clear a4
  rotate_left
  go_simp
  have bw:=e9.alloc (J #[V I k,U N,V I L,V I F,U G,Y A C P,Y H E M] 78);have s:=af dn (J #[V I k,U N,V I L,V I F,U G,Y A C P,Y H E M] 78);refine c.out _ _ (λ_=>bD _ (bw.mono (λk _ e=>e.elim))) ?_;clear c K;try go_frame
  have d3:=e9.size;obtain⟨g1,al⟩:∃z,dn.heap.size=z:=⟨_,rfl⟩;rw[al]at s ⊢;obtain⟨b4,a0⟩:∃d,dn.alloc (J #[V I k,U N,V I L,V I F,U G,Y A C P,Y H E M] 78)=d:=⟨_,rfl⟩;rw[a0]at bw s ⊢;rw[al]at d3;clear a0 al;refine aq [4] ?_;refine aj rfl (λK c=>?_) xQ.nil
  go_simp
  have bs:=bw.alloc (J #[V I x.1.k,V I x.1.n,U SX] 30);have ba:=af b4 (J #[V I x.1.k,V I x.1.n,U SX] 30);have hA:=aa (J #[V I x.1.k,V I x.1.n,U SX] 30) s;clear s;have s:=hA;clear hA;refine c.out _ _ (λ_=>bD _ (bs.mono (λk _ e=>e.elim))) ?_;clear c K;try go_frame
  obtain⟨fR,al⟩:∃z,b4.heap.size=z:=⟨_,rfl⟩;rw[al]at ba ⊢;obtain⟨bx,a0⟩:∃d,b4.alloc (J #[V I x.1.k,V I x.1.n,U SX] 30)=d:=⟨_,rfl⟩;rw[a0]at bs ba s ⊢;clear a0 al;refine aq [5] ?_;refine aj rfl (λK c=>?_) xQ.nil;have cc:=br ba;have b9:=am ad bs (λ_ _ e=>e);have d0:=bs.size;refine wp_append_lies bx (.tmp 37) (.tmp 40) 28 rfl (w.heap.size+9) 30 hc _ 3 32 underlying28 g0 hf hb gg rfl (by decide) (Y R t S) t _ rfl b9 ⟨fR,0,O⟩ 1 1 [V I x.1.k,V I x.1.n,U SX] rfl rfl cc (by simp[Value.oneCell']) (by decide) fn (by omega) (by omega) bx.heap.size rfl ?_;intro X dc ch bb a1 be ct;have b5:Far (λk=>(Value.slice R t S).ownBlock=W k) r ch:=(bs.mono (λ_ _ e=>e.elim)).grown a1 (λk e _=>e);have d6:(Value.slice R t S).ownBlock=W X\/r.heap.size<=X:=by
   rcases be with e|e
   ·exact .inl e
   ·exact .inr (by omega)
  have dv:=(a1.block _ (lt_of_heap s) (λe=>by have:=(ad.lt _ e.symm).2;have:=ga _ e.symm;omega)).trans s;clear s;have s:=dv;clear dv;clear a1 be cc b9 d0;have bk:=bD _ (b5.mono (λ_ _ e=>.inl e));refine c.out _ _ (λ_=>bk) ?_;clear c K;try go_frame
  refine aJ (by kernel_rfl) (λ_ _ _ _ a=>a) bk 4 [13] _ _ (by kernel_rfl) ?_;iterate 1 (refine xT.take (v:=?_) rfl (by kernel_rfl) ?_ ?_;rotate_left;·(intro e8 a5;(try dsimp only at a5);(try obtain⟨d5,e1,gr,hj,gk,ha,g3,f7,hk,g5,hd,f6⟩:=a5);go_simp;try with_reducible rfl);try go_frame)
  refine xT.done ?_;try dsimp only
  clear bk;have b8:=b5;have a4:∃d,ch=d:=⟨_,rfl⟩;obtain⟨eq,a4⟩:=a4;rw[a4]at b8 bb s ct ⊢;clear a4;all_goals (
   have m2:=ct;have nf:=b8.size;have hZ:=am bn b8 (λk j e=>(bm k j).2 e);refine aq [12] ?_;refine aj rfl (λK c=>?_) xQ.nil;refine wp_append_lies eq (.tmp 43) (.tmp 47) 76 rfl (w.heap.size+9) 78 l2 _ 7 104 underlying76 k6 l1 k3 le rfl (by decide) (Y y t u) t fG rfl hZ ⟨g1,0,O⟩ 1 1 [V I k,U N,V I L,V I F,U G,Y A C P,Y H E M] rfl rfl (br s) (by simp[Value.oneCell']) (by decide) fn (by omega) (by omega) eq.heap.size rfl ?_;intro er lc d4 f9 a1 be nv;have fs:Far (λk=>(Value.slice R t S).ownBlock=W k\/(Value.slice y t u).ownBlock=W k) r d4:=(b8.mono (λ_ _ e=>.inl e)).grown a1 (λk e _=>.inr e);have hT:=bD _ fs;refine c.out _ _ (λ_=>hT) ?_;clear c K;try go_frame
   have hx:(Value.slice y t u).ownBlock≠W X:=λe=>by
    rcases d6 with a|a
    ·exact(bm X e).2 a
    ·have:=i1 X e;omega
   have k4:X≠er:=λe=>by
    rcases be with a|a
    ·exact hx (e ▸ a)
    ·omega
   have i4:=am bb ((ξ (λk=>(Value.slice y t u).ownBlock=W k) eq).grown a1 (λk e _=>e)) (λk e a=>by injection e with e;dsimp only at e;subst e;exact hx a);have gl:=fs.heap a2 (λe=>by rcases e with e|e;(have:=(ad.lt _ e).1;omega);have:=(bn.lt _ e).1;omega);have mt:w.heap.size+9<=X:=(bb.lt X rfl).1;have nx:w.heap.size+9<=er:=(f9.lt er rfl).1;have i2:∀b0:World,b0.heap[w.heap.size+3]? =W (J #[V I 2,U ⟨#[]⟩,V I 0,V I 0,U ⟨#[]⟩,Y (W ⟨X,0,O⟩) (t+1) dc,Y (W ⟨er,0,O⟩) (t+1) lc] 78 (0,0))->Far (·=w.heap.size+3) d4 b0->
    ∃hP,DsI w f xs (t+1) hP b0/\Far c2 b b0/\∀k,hP k->(c2 k\/cb k\/d.heap.size<=k)/\(True->k < b0.heap.size):=by
    intro b0 l0 ab;have cv:Far (λk=>k=w.heap.size+3\/(Value.slice R t S).ownBlock=W k\/(Value.slice y t u).ownBlock=W k) r b0:=(fs.mono (λ_ _ e=>.inr e)).step ab (λk _ e=>.inl e);have h3:Far c2 b b0:=(fv.mono (λ_ _ e=>e.elim)).step cv (λk j e=>by
     rcases e with rfl|e|e
     ·exact df
     ·exact b2 k e
     ·exact(bm k e).1)
    have f5:∀k,(k=w.heap.size+3\/(Value.slice R t S).ownBlock=W k\/(Value.slice y t u).ownBlock=W k)->w.heap.size+3=k\/w.heap.size+9<=k:=λk a=>by
     rcases a with a|a|a
     ·exact .inl a.symm
     ·exact .inr (ad.lt k a).1
     ·exact .inr (bn.lt k a).1
    have a9:∀k,cb k->k≠w.heap.size+2/\k≠w.heap.size+3/\(Value.slice y t u).ownBlock≠W k/\(Value.slice R t S).ownBlock≠W k:=λk j=>⟨λe=>(ck.out k j).1 (e ▸ es),λe=>(ck.out k j).1 (e ▸ df),λe=>(ck.out k j).1 (bm k e).1,λe=>(ck.out k j).1 (b2 k e)⟩;have hR:∀k,k < b.heap.size->(Value.slice y t u).ownBlock≠W k->(Value.slice R t S).ownBlock≠W k->er≠k/\X≠k:=λk j hm hi=>⟨λe=>by
     rcases be with a|a
     ·exact hm (e ▸ a)
     ·omega,λe=>by
     rcases d6 with a|a
     ·exact hi (e ▸ a)
     ·omega⟩
    have lr:xU b0 (λk=>ex k\/cb k) ((xs.take (t+1)).map (·.2)) (fG++[V I k,U N,V I L,V I F,U G,Y A C P,Y H E M]):=by
     rw[zG,hK.out,List.map_append];exact xU.snoc (xS.mono (λ_ a _=>.inr a) _ _ (xS.far cv (λk j _ e=>by
      rcases e with e|e|e
      ·exact(a9 k j).2.1 e
      ·exact(a9 k j).2.2.2 e
      ·exact(a9 k j).2.2.1 e) _ _ he)) _ _ (xU.mono (λ_ a _=>.inl a) _ _ (xU.far cv (λk j _ e=>by
      rcases e with e|e|e
      ·exact(av k j).2.2.1 e
      ·exact(av k j).2.2.2.2 e
      ·exact(av k j).2.2.2.1 e) _ _ co))
    have kf:xV ((xs.take (t+1)).map (·.1))=xV ((xs.take t).map (·.1))++[V I x.1.k,V I x.1.n,U SX]:=by
     rw[zG,hK.out,List.map_append];unfold xV;rw[List.flatMap_append];simp[fr.out]
    have nd:=h3.size;have no:=ab.size;have n2:=cv.size;have ns:=a1.size;refine⟨λk=>c2 k\/cb k\/(b.heap.size<=k/\k < b0.heap.size),⟨?_,?_,.inl es,.inl df,cv.heap e0 (λe=>by rcases f5 _ e with a|a<;>omega),⟨_,_,_,λk=>ex k\/cb k,l0,by rw[kf];exact am i4 ab (λk e a=>by injection e with e;dsimp only at e;omega),am f9 ab (λk e a=>by injection e with e;dsimp only at e;omega),?_,?_,lr,?_⟩,d1.step cv (λk j e=>by rcases f5 _ e with a|a<;>omega),cv.heap dr (λe=>by rcases f5 _ e with a|a<;>omega)⟩,h3,?_⟩
    ·rintro k (a|a|a)
     ·have:=e2 k a;omega
     ·have:=(ck.out k a).2.1;omega
     ·exact a.2
    ·rintro k (a|a|a)
     ·exact c1 k a
     ·exact(ck.out k a).2.2
     ·have:=a.1;omega
    ·intro k e
     injection e with e;dsimp only at e
     subst e;refine⟨?_,λe=>?_⟩
     ·rcases be with a|a
      ·exact .inl (bm _ a).1
      ·exact .inr (.inr (by omega))
     ·injection e with e
      exact k4 e
    ·intro k e
     injection e with e;dsimp only at e
     subst e;rcases d6 with a|a
     ·exact .inl (b2 _ a)
     ·exact .inr (.inr (by omega))
    ·rintro k (a|a)
     ·obtain⟨e7,fz⟩:=hR k (e2 k (av k a).1) (av k a).2.2.2.1 (av k a).2.2.2.2
      exact⟨.inl (av k a).1,(av k a).2.1,(av k a).2.2.1,λe=>by injection e with e;exact e7 e,λe=>by injection e with e;exact fz e⟩
     ·obtain⟨e7,fz⟩:=hR k (ck.out k a).2.1 (a9 k a).2.2.1 (a9 k a).2.2.2
      exact⟨.inr (.inl a),(a9 k a).1,(a9 k a).2.1,λe=>by injection e with e;exact e7 e,λe=>by injection e with e;exact fz e⟩
    ·rintro k (a|a|a)
     ·exact⟨.inl a,λ_=>by have:=e2 k a;omega⟩
     ·exact⟨.inr (.inl a),λ_=>by have:=(ck.out k a).2.1;omega⟩
     ·exact⟨.inr (.inr (by omega)),λ_=>a.2⟩
   have l3:=zD i2;clear i2 f9 bb i4 b8 fs hl c1 es df e0 a2 bn co d1 av dr ad b2 bm he a1 hZ s bD an;obtain⟨d5,e1,_⟩:=hT;have kk:=ag gl 5;refine aq [14] ?_;refine aj rfl (λK c=>?_) xQ.nil
   go_simp
   refine c.out _ _ (λa=>absurd (by simp) a) ?_;clear c K;try go_frame
   refine ee (by kernel_rfl) (λ_ _ _ _ a=>a) 1 [15] _ _ (by kernel_rfl) ?_;iterate 1 (refine xT.take (v:=?_) rfl (by kernel_rfl) ?_ ?_;rotate_left;·(intro e8 a5;(try dsimp only at a5);(try obtain⟨n0,mb,nm⟩:=a5);go_simp;try with_reducible rfl);try go_frame)
   refine xT.done ?_;try dsimp only
   have f2:=ai gl 5 (Y (W ⟨X,0,O⟩) (t+1) dc);have hH:Far (·=w.heap.size+3) d4 (d4.setCell ⟨w.heap.size+3,5,O⟩ (Y (W ⟨X,0,O⟩) (t+1) dc)):=Far.setCell (D:=(·=w.heap.size+3)) (ξ _ _) (p:=⟨w.heap.size+3,5,O⟩) (λ_=>rfl) _;obtain⟨ht,i5⟩:∃ht,d4.setCell ⟨w.heap.size+3,5,O⟩ (Y (W ⟨X,0,O⟩) (t+1) dc)=ht:=⟨_,rfl⟩;rw[i5]at f2 hH ⊢;clear i5 d5 e1 kk gl;have e7:=zF f2 6 rfl;have fz:=ag f2 6;refine aq [16] ?_;refine aj rfl (λK c=>?_) xQ.nil
   go_simp
   refine c.out _ _ (λa=>absurd (by simp) a) ?_;clear c K;refine aP (by kernel_rfl) ?_ _;exact l3.out _ (ai f2 6 _) (hH.trans (Far.setCell (D:=(·=w.heap.size+3)) (ξ _ _) (p:=⟨w.heap.size+3,6,O⟩) (λ_=>rfl) _)))
 case done=>
  rintro c2 d hI ih c b6;have fl:=cf.out;rw[fl]at c b6 ⊢;obtain⟨hl,c1,es,df,e0,⟨kv,c3,fG,ex,a2,ad,bn,bm,b2,co,av⟩,d1,dr⟩:=hI;rw[List.take_length]at co ad;rw[hv.out]at co;rw[i9.out]at ad;have ho:xs.length=e3.length:=by rw[<-i9.out,List.length_map]
  have h9:xs.length=dp.length:=by rw[<-hv.out,List.length_map]
  have a9:∀k,(ex k\/kv.ownBlock=W k\/c3.ownBlock=W k)->w.heap.size<=k/\k≠w.heap.size+2/\k≠w.heap.size+7:=λk a=>by
   rcases a with a|a|a
   ·exact⟨c1 k (av k a).1,(av k a).2.1,b6 k (av k a).1⟩
   ·exact⟨c1 k (b2 k a),by have:=(ad.lt k a).1;omega,b6 k (b2 k a)⟩
   ·exact⟨c1 k (bm k a).1,by have:=(bn.lt k a).1;omega,b6 k (bm k a).1⟩
  have a6:xS d (λk=>ex k\/kv.ownBlock=W k\/c3.ownBlock=W k) ⟨2,[],Tp.Sc.null,e3,dp⟩ [V I 2,U ⟨#[]⟩,V I 0,V I 0,U ⟨#[]⟩,kv,c3]:=by
   unfold xS;exact⟨kv,c3,fG,rfl,by rw[<-ho];exact(cx ad).mono (λ_ a _=>.inr (.inl a)),xU.mono (λ_ a _=>.inl a) _ _ co,by rw[<-h9];exact(cx bn).mono (λ_ a _=>.inr (.inr a))⟩
  have g7:=hO f g v a3 z kd _ _ _ d ih k0.out (λk a e=>by have:=(a9 k a).1;omega) a6;rw[ks]at g7;obtain⟨R,hq,S,rfl⟩:∃y db u,kv=Y y db u:=by
   rcases ad.2 with ⟨ao,e5⟩|⟨f3,g4,f4,ao,_⟩
   ·exact⟨_,_,_,ao⟩
   ·exact⟨_,_,_,ao⟩
  obtain⟨y,db,u,rfl⟩:∃y db u,c3=Y y db u:=by
   rcases bn.2 with ⟨ao,e5⟩|⟨f3,g4,f4,ao,_⟩
   ·exact⟨_,_,_,ao⟩
   ·exact⟨_,_,_,ao⟩
  have k1:=zF dr 0 rfl;have lt:=zF a2 0 rfl;have t1:=zF a2 1 rfl;have t2:=zF a2 2 rfl;have kr:=zF a2 3 rfl;have kn:=zF a2 4 rfl;have l7:=zF a2 5 rfl;have ky:=zF a2 6 rfl;obtain⟨hU,ge,f8,gd,l5⟩:=zx5 g7 a9 c e0 d1;clear g7 a9 a6 ih c hl c1 es df e0 a2 bn co d1 av dr ad b2 bm b6 ho h9
  go_wp2_with fail
  refine hU.out.mono ?_;rintro e hX ⟨⟨rfl,a6⟩,l,ab⟩;have da:=ab.heap gd.out (by omega);have j:=ab.heap f8.out (by omega);have b3:=l5.out.trans ab;have m9:=ag da 0;have n1:=zF da 0 rfl;obtain⟨ln,l8,kb,gd,f8⟩:=zx5 a6 l b3 da j;clear a6 l ab da j b3 hU lt t1 t2 kr kn l7 ky k1
  go_wp2_with fail
  have c5:Far (·=w.heap.size+2) hX (hX.setCell ⟨w.heap.size+1+1,0,O⟩ (.iface 487 (γ #[V I 2,U ⟨#[]⟩,V I 0,V I 0,U ⟨#[]⟩,Y R hq S,Y y db u]))):=Far.setCell (D:=(·=w.heap.size+2)) (ξ _ _) (p:=⟨w.heap.size+1+1,0,O⟩) (λ_=>rfl) _;have da:=ai gd.out 0 (.iface 487 (γ #[V I 2,U ⟨#[]⟩,V I 0,V I 0,U ⟨#[]⟩,Y R hq S,Y y db u]));refine au (q:=w.heap.size+7) rfl (c5.heap f8.out (by omega)) ?_;intro b1 c9;have ds:=ae (c9.heap da (by omega)) 0;refine⟨_,eB results297 b1 (w.heap.size+2) _ _ ds rfl ⟨_,_,rfl⟩,⟨_,rfl,xS.base (xS.far c9 (λk a _ e=>(ge.out k a).2.2 e) _ _ (xS.far c5 (λk a _ e=>(ge.out k a).2.1 e) _ _ ln.out)) (λk a=>(ge.out k a).1)⟩,(l8.out.far c5 (by omega) (by omega)).far c9 (by omega) (by omega),(kb.out.step c5 (λk j e=>by omega)).step c9 (λk j e=>by omega)⟩
end
section
theorem ed{P:Program}{w:World}{a:Addr}(m:Mode):(store a .nilFunc m).run P w=stored P w a .nilFunc m:=run_store P w a _ m rfl
attribute [local go_sem] ed
theorem vL(n:Nat)(x b:Array Value)(a:World):(binOp .eql 434 (φ (.func n) x b) .nilFunc).run π a=.ok (β false) a:=by kernel_rfl
theorem b7(a g:Nat)(v:Value)(f:List Tp.Tk)(i l:Nat)(t:Tp.Tk)(w:World)(d j:Nat)(x:Tp.Tree)(G:yg w a g v f i)(m:f[i]? =W t)(ad:l<=24)(N:(t.k=1/\d=293)\/(t.k=2/\d=293)\/(t.k=3/\d=294)\/(t.k=4/\d=295)\/(t.k=8/\d=296)\/(t.k=10/\d=297))
(D:∀c,Far xO w c->Calls π d #[Z (W ⟨a,0,O⟩),V I (l:Int)] c (Ak a g v f j w x)):
 Calls π 269 #[Z (W ⟨a,0,O⟩),V I (l:Int)] w (Ak a g v f j w x):=by
 have a2:=(zM.1 m).1;obtain⟨o,cap,rfl,r,c3,c4,s,q,P⟩:=G.tok m;have M:=λc=>uI (l:Int) 24 c;rw[decide_eq_false (by omega:¬(24:Int) < (l:Int))]at M;have T:=λc=>wG (i:Int) 0 c;rw[decide_eq_false (by omega:¬(i:Int) < 0)]at T;have H:=λc=>uJ (i:Int) (f.length:Int) c;rw[decide_eq_false (by omega:¬(f.length:Int)<=(i:Int))]at H;have a5:(0:Int)<=(i:Int):=by omega
 have ac:(i:Int) < (f.length:Int):=by omega
 have R:=zD D;clear D G m;generalize t.k=K at *;have b:=af w (J #[.nilFunc,φ (.func 293) #[Z (W ⟨a,0,O⟩)] #[],φ (.func 293) #[Z (W ⟨a,0,O⟩)] #[],φ (.func 294) #[Z (W ⟨a,0,O⟩)] #[],φ (.func 295) #[Z (W ⟨a,0,O⟩)] #[],.nilFunc,.nilFunc,.nilFunc,φ (.func 296) #[Z (W ⟨a,0,O⟩)] #[],.nilFunc,φ (.func 297) #[Z (W ⟨a,0,O⟩)] #[]] 455);have k:Far xO w (w.alloc (J #[.nilFunc,φ (.func 293) #[Z (W ⟨a,0,O⟩)] #[],φ (.func 293) #[Z (W ⟨a,0,O⟩)] #[],φ (.func 294) #[Z (W ⟨a,0,O⟩)] #[],φ (.func 295) #[Z (W ⟨a,0,O⟩)] #[],.nilFunc,.nilFunc,.nilFunc,φ (.func 296) #[Z (W ⟨a,0,O⟩)] #[],.nilFunc,φ (.func 297) #[Z (W ⟨a,0,O⟩)] #[]] 455)):=(ξ _ w).alloc _;have p:=zD k
 go_enter func269,ntmps269
 go_upto_region 2 with (fail)
 replace s:=k.at s id
 replace q:=k.at q id
 replace r:=k.at r id
 obtain⟨z,y⟩:∃z,w.heap.size=z:=⟨_,rfl⟩;rw[y]at b ⊢;obtain⟨u,A⟩:∃u,w.alloc (J #[.nilFunc,φ (.func 293) #[Z (W ⟨a,0,O⟩)] #[],φ (.func 293) #[Z (W ⟨a,0,O⟩)] #[],φ (.func 294) #[Z (W ⟨a,0,O⟩)] #[],φ (.func 295) #[Z (W ⟨a,0,O⟩)] #[],.nilFunc,.nilFunc,.nilFunc,φ (.func 296) #[Z (W ⟨a,0,O⟩)] #[],.nilFunc,φ (.func 297) #[Z (W ⟨a,0,O⟩)] #[]] 455)=u:=⟨_,rfl⟩;rw[A]at s q r b p ⊢;have an:=zF b 1 rfl;have a0:=zF b 2 rfl;have ao:=zF b 3 rfl;have a1:=zF b 4 rfl;have a4:=zF b 8 rfl;have av:=zF b 10 rfl;clear c3 c4 P k b y A;have a3:=λn=>vL n #[Z (W ⟨a,0,O⟩)] #[];rcases N with ⟨rfl,rfl⟩|⟨rfl,rfl⟩|⟨rfl,rfl⟩|⟨rfl,rfl⟩|⟨rfl,rfl⟩|⟨rfl,rfl⟩;all_goals (
  go_wp2_with fail
  go_quiet (fail)
  go_wp2_with fail
  go_quiet (fail)
  go_wp2_with fail
  refine Calls.mono (R.out _ ?_) ?_
  ·first|exact p.out.drewN _|exact(p.out.drewN _).drewN _
  rintro e al ⟨⟨L,rfl,C⟩,E,F⟩;obtain⟨ab,X,S⟩:=zx3 C E F;clear C E F
  go_wp2_with fail
  go_ret
  exact⟨⟨L,rfl,ab.out⟩,X.out,S.out⟩)
theorem jG:∀n,zt n
 |0=>λo g v d i q t rest w _ _ _ f=>by simp[Tp.fval]at f
 |n+1=>λo g v d i q t rest w E av T b=>by
  have ab:∀m,m < n+1->zt m:=λm _=>jG m;have F:=(kP d (n+1) q i _ b).2.1;have a2:=b;unfold Tp.fval at b;rw[if_neg (by omega)]at b;obtain⟨l,D⟩:∃l,d.drop i=l:=⟨_,rfl⟩;rw[D]at b
  match l,D,b with
  | [],D,b=>cases b
  |t0::u,D,b=>
   have P:i < d.length:=by
    rcases Nat.lt_or_ge i d.length with f|f
    ·exact f
    ·rw[List.drop_eq_nil_of_le f]at D;cases D
   have ad:=zW P;rw[D]at ad;injection ad with hd1 hd2;have C:d[i]? =W t0:=by rw[zE P,hd1]
   have ac:d.length - u.length=i+1:=by rw[hd2,zZ];omega
   have r:∀a:World,Far xO w a->yg a o g v d i/\Glob a/\g < a.heap.size:=λa c=>⟨E.far c (λe=>e) (λe=>e),av.far c (λ_ _ e=>e),zK (E.tok_lt C) c.size⟩;have G:∀(a:World) (j:Nat) (x:Tp.Tree) (e:Ending) (p:World),Far xO w a->Ak o g v d j a x e p->Ak o g v d j w x e p:=λa j x e p c ⟨⟨tv,s,A⟩,L,H⟩=>⟨⟨tv,s,A.base (λk ao=>Nat.le_trans c.size ao)⟩,L,(c.mono (λ_ _ e=>e.elim)).trans H⟩;simp only at b;by_cases S:t0.k=1\/t0.k=2
   ·rw[if_pos S]at b
    obtain⟨x,a0,A⟩:=zN.1 b;injection A with e1 e2;subst e1 e2;rw[ac];exact b7 o g v d i q t0 w 293 _ _ E C F (by rcases S with f|f<;>simp[f]) (λa c=>(Be o g v d i t0 x (q:Int) a (r a c).1 (r a c).2.1 C a0).mono (λe p f=>G a _ _ e p c f))
   rw[if_neg S]at b;by_cases L:t0.k=3
   ·rw[if_pos L]at b
    match u,hd2,b with
    | [],hd2,b=>cases b
    |y::z,hd2,b=>
     simp only at b;split at b
     ·cases b
     rename_i hy
     obtain⟨x,s,A⟩:=zN.1 b;obtain⟨N,M⟩:=x;injection A with e1 e2;subst e1 e2;have al:xY d (i+1) [3,4]=false:=by
      rw[aV,<-hd2];simp only[List.any_cons,List.any_nil,Bool.or_false];rw[Bool.eq_false_iff];intro f;simp at f
      exact hy f
     rw[hd2]at s;exact b7 o g v d i q t0 w 294 _ _ E C F (by simp[L]) (λa c=>(ow n (ab n (by omega)) o g v d i q t0 N M a (r a c).1 (r a c).2.1 T C al s).mono (λe p f=>G a _ _ e p c f))
   rw[if_neg L]at b;by_cases H:t0.k=4
   ·rw[if_pos H]at b
    injection b with b;injection b with e1 e2;subst e1 e2;rw[ac];exact b7 o g v d i q t0 w 295 _ _ E C F (by simp[H]) (λa c=>(tj o g v d i t0 (q:Int) a (r a c).1 C).mono (λe p f=>G a _ _ e p c f))
   rw[if_neg H]at b;by_cases X:t0.k=8
   ·rw[if_pos X]at b
    obtain⟨x,s,A⟩:=zN.1 b;obtain⟨N,M⟩:=x;injection A with e1 e2;subst e1 e2;rw[hd2]at s;exact b7 o g v d i q t0 w 296 _ _ E C F (by simp[X]) (λa c=>(qw n (λm a1=>ab m (by omega)) o g v d i q N M a (r a c).1 (r a c).2.1 T (r a c).2.2 P (by omega) s).mono (λe p f=>G a _ _ e p c f))
   rw[if_neg X]at b;by_cases R:t0.k=10
   ·rw[if_pos R]at b
    obtain⟨x,s,A⟩:=zN.1 b;obtain⟨N,M,an⟩:=x;injection A with e1 e2;subst e1 e2;rw[hd2]at s;exact b7 o g v d i q t0 w 297 _ _ E C F (by simp[R]) (λa c=>(qA n (λm a1=>ab m (by omega)) o g v d i q N M an a (r a c).1 (r a c).2.1 T (r a c).2.2 P (by omega) s).mono (λe p f=>G a _ _ e p c f))
   rw[if_neg R]at b;cases b
end
theorem dH{d:Func}{a e f:Tmp}(i:d.results=#[.cell a 78,.tmp e,.tmp f])(c:World)(q:Nat)(x:Array Value)(b:Array Value)(k:c.heap[q]? =W (J x 78 (0,0)))(m:x.size=7)(l:b.getD a undef=Z (W ⟨q,0,O⟩)):
 (results d b).run π c=.ok (.tuple #[γ x,b.getD e undef,b.getD f undef]) c:=by
 have g:b[a]?.getD undef=Z (W ⟨q,0,O⟩):=by simpa using l
 have j:=run_loadVar_row (P:=π) c q 78 78 x (0,0) _ k underlying78 rfl (by rw[m];exact gS);simp[results,i,asAddr,g,j,Sem.run_bind,Result.andThen]
theorem aG{w:World}{q:Nat}{o l j n k i m:Value}{T:TypeId}(r:w.heap[q]? =W (J #[o,l,j,n,k,i,m] T (0,0)))(e a f d g b c:Value):
 (((((((w.setCell ⟨q,0,O⟩ e).setCell ⟨q,1,O⟩ a).setCell ⟨q,2,O⟩ f).setCell ⟨q,3,O⟩ d).setCell ⟨q,4,O⟩ g).setCell ⟨q,5,O⟩ b).setCell ⟨q,6,O⟩ c).heap[q]? =W (J #[e,a,f,d,g,b,c] T (0,0))/\
 Far (·=q) w (((((((w.setCell ⟨q,0,O⟩ e).setCell ⟨q,1,O⟩ a).setCell ⟨q,2,O⟩ f).setCell ⟨q,3,O⟩ d).setCell ⟨q,4,O⟩ g).setCell ⟨q,5,O⟩ b).setCell ⟨q,6,O⟩ c):=
 ⟨ai (ai (ai (ai (ai (ai (ai r 0 _) 1 _) 2 _) 3 _) 4 _) 5 _) 6 _,
  (((((((ξ (·=q) w).setCell (p:=⟨q,0,O⟩) (λ_=>rfl) _).setCell (p:=⟨q,1,O⟩) (λ_=>rfl) _).setCell (p:=⟨q,2,O⟩) (λ_=>rfl) _).setCell (p:=⟨q,3,O⟩) (λ_=>rfl) _).setCell (p:=⟨q,4,O⟩) (λ_=>rfl) _).setCell (p:=⟨q,5,O⟩) (λ_=>rfl) _).setCell (p:=⟨q,6,O⟩) (λ_=>rfl) _⟩
theorem pn(v:Value)(g:Nat)(c:List Tp.Tk)(n:Nat)(t:Tp.Tree)(rest:List Tp.Tk)(w:World)(H:TkG w g v c)(b4:∀t∈c,zf t)(ct:c.length<=100000)(ac:Glob w)(a1:Tp.fval n 1 c=W (t,rest)):
 Calls π 238 #[v,V I 0] w λe w'=>(∃X:List Value,e=ρ (.tuple #[γ X.toArray,V I ((c.length - rest.length:Nat):Int),V I 0])/\xS w' (New w) t X)/\Below w.heap.size w w':=by
 have c0:∃a l al,v=Y a l al:=by obtain⟨a,_,al,d,_⟩:=H;exact⟨_,_,_,d⟩
 obtain⟨j,m,p,rfl⟩:=c0;have dv:g < w.heap.size:=by
  obtain⟨a,o,al,d5,d2,cv⟩:=H;cases c with
  |nil=>cases n<;>simp[Tp.fval]at a1
  |cons x u=>exact(cv (by simp[xZ])).2.1
 obtain⟨f,dp⟩:∃f,w.heap.size+1=f:=⟨_,rfl⟩;have bm:((w.alloc (.cells #[V I 0,U ⟨#[]⟩,V I 0,V I 0,U ⟨#[]⟩,Y O 0 0,Y O 0 0] 78)).alloc (.cells #[Y j m p,V I 0] 431)).heap[f]? =W (.cells #[Y j m p,V I 0] 431 (0,0)):=by rw[<-dp];exact ah _ _ _ (by simp)
 have R:Far xO w ((w.alloc (.cells #[V I 0,U ⟨#[]⟩,V I 0,V I 0,U ⟨#[]⟩,Y O 0 0,Y O 0 0] 78)).alloc (.cells #[Y j m p,V I 0] 431)):=((ξ _ w).alloc _).alloc _;have b8:((w.alloc (.cells #[V I 0,U ⟨#[]⟩,V I 0,V I 0,U ⟨#[]⟩,Y O 0 0,Y O 0 0] 78)).alloc (.cells #[Y j m p,V I 0] 431)).heap[w.heap.size]? =W (.cells #[V I 0,U ⟨#[]⟩,V I 0,V I 0,U ⟨#[]⟩,Y O 0 0,Y O 0 0] 78 (0,0)):=aa _ (af w _);have b9:yg ((w.alloc (.cells #[V I 0,U ⟨#[]⟩,V I 0,V I 0,U ⟨#[]⟩,Y O 0 0,Y O 0 0] 78)).alloc (.cells #[Y j m p,V I 0] 431)) f g (Y j m p) c 0:=⟨⟨_,bm⟩,H.far R (λe=>e),by omega,b4,ct,z_ _⟩;have bR:=jG n f g _ c 0 1 t rest _ b9 (ac.far R (λ_ _ e=>e)) (by have:=ac.1;omega) a1;obtain⟨ca,ad,bw⟩:=zx3 bR R b8;clear bR b9 bm R b8 H b4 ac a1
 go_enter func238,ntmps238
 go_wp2_with fail
 refine ca.out.mono ?_;rintro e C ⟨⟨X,rfl,av⟩,bk,an⟩;obtain⟨k,M,P,y,D,E,F,N,L,G,z,rfl⟩:=av.form;have d1:=pY (γ #[V I k,U M,V I P,V I y,U D,Y E F N,Y L G z]);have bD:=an.heap bw.out (by omega);have a3:Below w.heap.size w C:=(ad.out.to_below (η _) (λ_ _ e=>e)).trans (an.to_below ad.out.size (λi da e=>by omega));have bx:xS C (λk=>w.heap.size+2<=k) t _:=xS.mono (λk ao _=>by have d:_<=k:=ao;simpa using d) _ _ av;have q:=(ξ xO C).alloc (.cells #[.nilIface] 436);have cb:=xS.far q (λ_ _ _ e=>e) _ _ bx;have bs:=bk.far q (λe=>e) (λe=>e);have b0:=q.heap bD (λe=>e);have cc:=a3.trans (q.to_below a3.size (λ_ _ e=>e.elim));obtain⟨b6,cf,bb,a9⟩:=zx4 cb bs b0 cc;clear av bk an bD a3 bx q cb bs b0 cc ca ad bw
 go_upto_region 6 with (fail)
 obtain⟨r,b3⟩:∃r,C.alloc (.cells #[.nilIface] 436)=r:=⟨_,rfl⟩;rw[b3]at b6 cf bb a9 ⊢;clear b3;obtain⟨T,S⟩:=cf.out.blk;obtain⟨J,bn⟩:∃J:Int,((c.length - rest.length:Nat):Int)=J:=⟨_,rfl⟩;rw[bn]at S;have a0:=zF S 1 rfl;have d0:=pQ (γ #[V I k,U M,V I P,V I y,U D,Y E F N,Y L G z]);have d4:=kR;refine wp_region_noPanic ?_;refine ar (λw'=>w'.cell? ⟨f,1,O⟩=W (V I J)) [8,9] (by kernel_rfl) ?_;refine aJ (by kernel_rfl) (λ_ _ _ _ d=>d) a0 4 [0,2,3,4,5,6] _ _ (by kernel_rfl) ?_;iterate 6 (refine xT.take (v:=?_) rfl (by kernel_rfl) ?_ ?_;rotate_left;·(intro a2 ba;(try dsimp only at ba);go_simp;try with_reducible rfl);try go_frame)
 refine xT.done ?_;try dsimp only
 refine aq [1] ?_;refine aj rfl (λK s=>?_) xQ.nil
 go_simp
 refine(iL k P y M D E L F N G z _).mono ?_;rintro e a2 ⟨rfl,b1⟩;have A:Far xO r a2:=((ξ _ r).drew).below b1;have a6:=A.at a0 (λe=>e);refine s.out _ _ (λ_=>a6) ?_;clear s K b1;try go_frame
 have b:=A.heap bb.out (λe=>e);have co:=zF b 0 rfl;have db:=ag b 0;have c3:=zF b 1 rfl;have c2:=ag b 1;have ch:=zF b 2 rfl;have ds:=ag b 2;have c1:=zF b 3 rfl;have cl:=ag b 3;have c5:=zF b 4 rfl;have dr:=ag b 4;have c9:=zF b 5 rfl;have df:=ag b 5;have cm:=zF b 6 rfl;have dn:=ag b 6;obtain⟨b5,ab⟩:=aG b (V I k) (U M) (V I P) (V I y) (U D) (Y E F N) (Y L G z);obtain⟨d3,c6⟩:=zx2 b A;clear b A S a0;refine aq [7] ?_;refine aj rfl (λK s=>?_) xQ.nil
 go_simp
 refine s.out _ _ (λ_=>ab.at a6 (by show ¬f=w.heap.size;omega)) ?_;clear s K;try go_frame
 refine ee (by kernel_rfl) (λ_ _ _ _ d=>d) 0 [8,9] _ _ (by kernel_rfl) ?_;iterate 2 (refine xT.take (v:=?_) rfl (by kernel_rfl) ?_ ?_;rotate_left;·(intro a2 ba;(try dsimp only at ba);go_simp;try with_reducible rfl);try go_frame)
 refine xT.done ?_;try dsimp only
 refine aP (by kernel_rfl) (NoPanic.normal ?_) _;have a4:Far (·=w.heap.size) r _:=(c6.out.mono (λ_ _ e=>e.elim)).trans ab;have b2:=xS.base (w0:=w) (xS.far a4 (λk (ao:w.heap.size+2<=k) _ e=>by omega) _ _ b6.out) (λk ao=>by omega);have be:=a9.out.trans (a4.to_below a9.out.size (λi da e=>by omega));obtain⟨c4,dc,ck⟩:=zx3 b2 be b5;clear b2 be b5 ab a4 co c3 ch c1 c5 c9 cm db c2 ds cl dr df dn a6
 go_wp2_with fail
 exact bodyPost_ret (dH results238 _ _ _ _ ck.out rfl rfl) rfl ⟨⟨_,by rw[bn];rfl,c4.out⟩,dc.out⟩
theorem pU(a c:Option Addr)(f d:Nat)(w:World):Calls π 271 #[Y a 0 f,Y c 0 d] w λe w'=>e=ρ (β true)/\w'=w:=by
 go_enter func271,ntmps271
 go_wp2_with fail
 go_loopw [13] (λb wr=>b=V I 0/\wr=w) (λ_ _=>0)
 case atStart=>exact⟨rfl,rfl⟩
 case round=>
  obtain⟨rfl,rfl⟩:=hrel
  go_wp2_with fail
  go_ret
  exact⟨rfl,rfl⟩
theorem sT(a b:Option Addr)(c d:Nat)(w:World):Calls π 239 #[Y a 0 c,Y b 0 d] w λe w'=>e=ρ (β true)/\w'=w:=by
 go_enter func239,ntmps239
 go_wp2_with fail
 refine(pU a b c d _).mono ?_;rintro e f ⟨rfl,rfl⟩
 go_wp2_with fail
 go_ret
 exact⟨rfl,rfl⟩
theorem aO{d:Func}{a e:Tmp}(g:d.results=#[.cell a 78,.tmp e])(c:World)(q:Nat)(x:Array Value)(b:Array Value)(j:c.heap[q]? =W (J x 78 (0,0)))(l:x.size=7)(k:b.getD a undef=Z (W ⟨q,0,O⟩)):
 (results d b).run π c=.ok (.tuple #[γ x,b.getD e undef]) c:=by
 have f:b[a]?.getD undef=Z (W ⟨q,0,O⟩):=by simpa using k
 have i:=run_loadVar_row (P:=π) c q 78 78 x (0,0) _ j underlying78 rfl (by rw[l];exact gS);simp[results,g,asAddr,f,i,Sem.run_bind,Result.andThen]
theorem pH(v:Value)(g:Nat)(c:List Tp.Tk)(n:Nat)(t:Tp.Tree)(w:World)(C:TkG w g v c)(X:∀t∈c,zf t)(av:c.length<=100000)(T:Glob w)(R:Tp.fval n 1 c=W (t,[])):
 Calls π 205 #[v] w λe w'=>(∃D:List Value,e=ρ (.tuple #[γ D.toArray,V I 0])/\xS w' (New w) t D)/\Below w.heap.size w w':=by
 have a1:∃a L,v=Y a c.length L/\c.length<=L:=by obtain⟨a,_,L,H,r,_⟩:=C;exact⟨_,_,H,r⟩
 obtain⟨bs,a0,rfl,b1⟩:=a1;have x:Far xO w (w.alloc (J #[V I 0,U ⟨#[]⟩,V I 0,V I 0,U ⟨#[]⟩,Y O 0 0,Y O 0 0] 78)):=(ξ _ w).alloc _;have M:=af w (J #[V I 0,U ⟨#[]⟩,V I 0,V I 0,U ⟨#[]⟩,Y O 0 0,Y O 0 0] 78);have r:=pn _ g c n t [] _ (C.far x (λe=>e)) X av (T.far x (λ_ _ e=>e)) R;simp only[List.length_nil,Nat.sub_zero]at r;obtain⟨N,ad,G⟩:=zx3 r x M;have a5:(0:Int)<=(c.length:Int):=by omega
 have b2:(c.length:Int)<=(a0:Int):=by omega
 have a9:(c.length:Int)<=(c.length:Int):=by omega
 clear r x M C X T R
 go_enter func205,ntmps205
 go_wp2_with fail
 refine N.out.mono ?_;rintro e A ⟨⟨D,rfl,F⟩,y⟩;obtain⟨k,o,m,d,j,s,p,l,u,q,f,rfl⟩:=F.form;have b:=aa (J #[V I k,U o,V I m,V I d,U j,Y s p l,Y u q f] 78) ((y.block _ (lt_of_heap G.out)).trans G.out);have z:=(ξ xO A).alloc (J #[V I k,U o,V I m,V I d,U j,Y s p l,Y u q f] 78);have S:xS (A.alloc (J #[V I k,U o,V I m,V I d,U j,Y s p l,Y u q f] 78)) (λk=>w.heap.size+1<=k) t _:=xS.mono (λk E _=>by have H:_<=k:=E;simpa using H) _ _ (xS.far z (λ_ _ _ e=>e) _ _ F);have ac:Below w.heap.size w (A.alloc (J #[V I k,U o,V I m,V I d,U j,Y s p l,Y u q f] 78)):=((ad.out.to_below (η _) (λ_ _ e=>e)).trans (y.mono (by simp))).trans (z.to_below (by have:=y.size;simp at this;omega) (λ_ _ e=>e.elim));have bm:=zF b 0 rfl;have bR:=ag b 0;have bb:=zF b 1 rfl;have a6:=ag b 1;have a3:=zF b 2 rfl;have b3:=ag b 2;have a4:=zF b 3 rfl;have ba:=ag b 3;have b0:=zF b 4 rfl;have bx:=ag b 4;have bw:=zF b 5 rfl;have bk:=ag b 5;have be:=zF b 6 rfl;have bn:=ag b 6;obtain⟨al,an,ab⟩:=zx3 b S ac;clear F y b z S ac N ad G
 go_wp2_with fail
 all_goals (
  refine(sT _ _ _ _ _).mono ?_;rintro e a2 ⟨rfl,rfl⟩
  go_wp2_with fail
  obtain⟨ao,P⟩:=aG al.out (V I k) (U o) (V I m) (V I d) (U j) (Y s p l) (Y u q f);exact bodyPost_ret (aO results205 _ _ _ _ ao rfl rfl) rfl ⟨⟨_,rfl,xS.base (xS.far P (λk (E:w.heap.size+1<=k) _ e=>by omega) _ _ an.out) (λk E=>by omega)⟩,ab.out.trans (P.to_below ab.out.size (λi bD e=>by omega))⟩)
theorem gq:∀(l:List Tp.Tree) (t:Tp.Tree),Tp.depthL (l++[t])=max (Tp.depthL l) (Tp.depth t)
 | [],t=>by simp[Tp.depthL]
 |x::r,t=>by
  rw[List.cons_append];unfold Tp.depthL;rw[gq r t,Nat.max_assoc]
theorem kZ:∀(l:List Tp.Tree) (j:Nat),Tp.depthL (l.take j)<=Tp.depthL l
 | [],j=>by simp
 |x::r,0=>by simp[Tp.depthL]
 |x::r,j+1=>by
  rw[List.take_succ_cons];unfold Tp.depthL;have:=kZ r j;omega
theorem gp:∀(l:List Tp.Tree) (j:Nat) (t:Tp.Tree),l[j]? =W t->Tp.depth t<=Tp.depthL l
 | [],j,t,h=>by simp at h
 |x::r,0,t,h=>by
  simp at h
  subst h;unfold Tp.depthL;omega
 |x::r,j+1,t,h=>by
  have:=gp r j t (by simpa using h);unfold Tp.depthL;omega
theorem Row.at{w:World}{k:NS}{n:Nat}{v:Value}{d:List Value}(p:Row w k n v d):∃a g o cap,v=Y a n cap/\n<=maxLen/\(d≠[]->a=W ⟨g,o,O⟩/\k g/\g < w.heap.size)/\∀(i:Nat) (x:Value),d[i]? =W x->w.cell? ⟨g,o+i,O⟩=W x:=by
 obtain⟨a,g,o,cap,l,j,m,c⟩:=p;exact⟨a,g,o,cap,l,Nat.le_trans j.1 j.2,λb=>⟨(c b).1,m b,(c b).2.1⟩,λi x f=>(c (λe=>by rw[e]at f;simp at f)).2.2 i x f⟩
theorem kY:∀(n:Nat) (t:Tp.Tree) (q:List Value) (u:NS) (w:World),Tp.depth t<=n->n<=1000->xS w u t q->Calls π 206 #[γ q.toArray] w λe w'=>e=ρ (V I (Tp.depth t:Int))/\Below w.heap.size w w'
 |0,⟨k,name,x,keys,kids⟩,q,u,w,hd,_,_=>by unfold Tp.depth at hd;omega
 |n+1,⟨k,name,x,keys,kids⟩,q,u,w,hd,hn,d=>by
  have hI:=λt q W f (d:xS W u t q)=>kY n t q u W f (by omega) d;unfold Tp.depth at hd ⊢;unfold xS at d;obtain⟨kv,dp,a6,rfl,a3,X,bk⟩:=d;obtain⟨cc,cf,c9,b8⟩:∃a n p,kv=Y a n p:=by obtain⟨a,_,_,p,f,_⟩:=a3;exact⟨_,_,_,f⟩
  obtain⟨bm,g,o,b2,rfl,a4,z,a1⟩:=bk.at
  subst b8;obtain⟨cv,bD⟩:∃L:ByteArray,xR name=U L:=⟨_,rfl⟩;obtain⟨cb,be⟩:∃L:ByteArray,xR x.s=U L:=⟨_,rfl⟩;rw[bD,be];have da:=xU.len _ _ X;have c6:kids.length<=9223372036854775807:=a4;have ba:∀j b,kids[j]? =some b->∃v:List Value,xS w u b v/\bm=some ⟨g,o,O⟩/\g < w.heap.size/\∀i,i < 7->∀s,v[i]? =some s->w.cell? ⟨g,o+j * 7+i,O⟩=some s:=λj b f=>by
   obtain⟨v,bw,a5⟩:=xU.at kids a6 j b X f;have av:a6≠[]:=λe=>by
    have bw:=(zM.1 f).1;have a5:kids.length * 7=0:=by rw[<-da,e];rfl
    omega
   exact⟨v,bw,(z av).1,(z av).2.2,λi co s cm=>by rw[Nat.add_assoc];exact a1 _ _ ((a5 i co).trans cm)⟩
  obtain⟨c2,ck⟩:=zx2 ba hI;obtain⟨c,R⟩:∃c,kids.length=c:=⟨_,rfl⟩;have dn:Tp.depthL kids<=n:=by omega
  rw[R]at c6 ⊢;have bs:=(ζ w.heap.size w).alloc (η _) (J #[V I k,U cv,V I x.k,V I x.n,U cb,Y cc cf c9,Y bm c b2] 78);have b3:=zD bs;clear ba hI X bk a3 a1 z bD be bs a4
  go_enter func206,ntmps206
  go_wp2_with fail
  go_loopw [3,9] (λct N wr=>∃j:Nat,j<=c/\ct=V I (Tp.depthL (kids.take j):Int)/\N=V I (j:Int)/\Below w.heap.size w wr) (λ_ N _=>c - (Lib.intOf N).toNat)
  case atStart=>exact⟨0,z_ _,by rw[List.take_zero];rfl,rfl,b3.out⟩
  case round=>
   obtain⟨j,dc,rfl,rfl,r⟩:=hrel;by_cases b5:j < c
   ·obtain⟨b,C⟩:∃b,kids[j]? =some b:=⟨_,zE (by rw[R];exact b5)⟩
    obtain⟨v,d,rfl,b9,l⟩:=c2.out j b C;have cl:=gp kids j b C;have y:Tp.depthL (kids.take (j+1))=max (Tp.depthL (kids.take j)) (Tp.depth b):=by rw[zG,C];exact gq _ _
    have c1:=kZ kids j;obtain⟨S,G,al,an,ad,ab,F,T,E,M,A,rfl⟩:=d.form;have m:∀i s,w.cell? ⟨g,o+j * 7+i,O⟩=some s->wr.cell? ⟨g,o+j * 7+i,O⟩=some s:=λi s f=>(World.cell?_of_block (w:=w) (r.block g b9)).trans f;have c0:wr.cell? ⟨g,o+j * 7,O⟩=some (V I S):=m 0 _ (l 0 (by omega) _ rfl);have ca:wr.cell? ⟨g,o+j * 7+1,O⟩=some (U G):=m 1 _ (l 1 (by omega) _ rfl);have b6:wr.cell? ⟨g,o+j * 7+2,O⟩=some (V I al):=m 2 _ (l 2 (by omega) _ rfl);have c3:wr.cell? ⟨g,o+j * 7+3,O⟩=some (V I an):=m 3 _ (l 3 (by omega) _ rfl);have c4:wr.cell? ⟨g,o+j * 7+4,O⟩=some (U ad):=m 4 _ (l 4 (by omega) _ rfl);have c5:wr.cell? ⟨g,o+j * 7+5,O⟩=some (Y ab F T):=m 5 _ (l 5 (by omega) _ rfl);have ch:wr.cell? ⟨g,o+j * 7+6,O⟩=some (Y E M A):=m 6 _ (l 6 (by omega) _ rfl);have bx:=xS.far (Far.of_below r xO) (λ_ _ _ e=>e) _ _ d;have H:=ck.out b _ _ (by omega) (xS.far ((ξ xO wr).alloc (J #[V I S,U G,V I al,V I an,U ad,Y ab F T,Y E M A] 78)) (λ_ _ _ e=>e) _ _ bx);have db:(0:Int)<=(j:Int):=by omega
    have df:(j:Int) < (c:Int):=by omega
    have bn:Below w.heap.size w (wr.alloc (J #[V I S,U G,V I al,V I an,U ad,Y ab F T,Y E M A] 78)):=r.alloc r.size _;obtain⟨a2,a9⟩:∃D,Tp.depthL (kids.take j)=D:=⟨_,rfl⟩;obtain⟨bb,a0⟩:∃D,Tp.depth b=D:=⟨_,rfl⟩;rw[a0]at H y cl;rw[a9]at y c1 ⊢;obtain⟨bR,P,b4⟩:=zx3 H bn y;clear H bx m l d r bn y a9 a0
    go_wp2_with fail
    refine bR.out.mono ?_;rintro e dr ⟨rfl,b1⟩;have ao:=P.out.trans (b1.mono P.out.size);have ac:=zD ao;clear b1 ao bR P c0 ca b6 c3 c4 c5 ch
    go_wp2_with fail
    go_roundw
    case rel=>exact⟨j+1,by omega,by rw[b4.out,show ((max a2 bb:Nat):Int)=max (a2:Int) (bb:Int)by omega],by go_num,ac.out⟩
    case measure=>simp[Lib.intOf];omega
   ·obtain rfl:j=c:=by omega
    have b0:kids.take kids.length=kids:=List.take_length;rw[<-R,b0];have ac:=zD r;clear r b0
    go_wp2_with fail
    go_ret
    exact⟨by simp,ac.out⟩
def x9(w:World)(a:NS):List Tp.En->List Value->Prop
 | [],cs=>cs=[]
 |e::r,cs=>∃v b,Row w a e.l.length v (xZ e.l)/\cs=V I e.no::V I e.col::v::b/\x9 w a r b
theorem x9.far{D b:NS}{w w':World}(c:Far D w w')(g:∀k,b k->k < w.heap.size->¬D k):∀(f:List Tp.En) (a:List Value),x9 w b f a->x9 w' b f a
 | [],a,h=>by unfold x9 at h ⊢;exact h
 |e::r,a,h=>by
  unfold x9 at h ⊢;obtain⟨v,d,j,i,l⟩:=h;exact⟨v,d,j.far c g,i,x9.far c g r d l⟩
structure yp(w:World)(r ge oe:Nat)(TG:NS)(es:List Tp.En):Prop where
 blk:∃T at0 cap,w.heap[r]? =W (J #[Y at0 es.length cap] T (0,0))/\es.length<=cap/\cap<=maxLen/\(es≠[]->at0=W ⟨ge,oe,O⟩)
 row:∃cs cur,w.heap[ge]? =W (J cur 220 (0,0))/\x9 w TG es cs/\∀i x,cs[i]? =W x->cur[oe+i]? =W x
 ne:ge≠r
 tgr:¬TG r
 tge:¬TG ge
 tgl:∀k,TG k->k < w.heap.size
theorem yp.far{D c:NS}{w w':World}{b d e:Nat}{f:List Tp.En}(z:yp w b d e c f)(a:Far D w w')(t:¬D b)(g:¬D d)(j:∀k,c k->k < w.heap.size->¬D k):yp w' b d e c f:=by
 obtain⟨⟨T,v,cap,o,i⟩,⟨n,r,u,m,p⟩,x,q,s,y⟩:=z;exact⟨⟨T,v,cap,a.heap o t,i⟩,⟨n,r,a.heap u g,x9.far a j _ _ m,p⟩,x,q,s,λk l=>zK (y k l) a.size⟩
theorem yp.lt{c:NS}{w:World}{a b e:Nat}{f:List Tp.En}(i:yp w a b e c f):a < w.heap.size/\b < w.heap.size:=by
 obtain⟨⟨T,q,cap,d,j⟩,⟨l,o,g,k,m⟩,r,n,p,s⟩:=i;exact⟨lt_of_heap d,lt_of_heap g⟩
theorem g9{d:Func}{a e:Tmp}(g:d.results=#[.cell a 220,.tmp e])(c:World)(q:Nat)(x:Array Value)(b:Array Value)(j:c.heap[q]? =W (J x 220 (0,0)))(l:x.size=3)(k:b.getD a undef=Z (W ⟨q,0,O⟩)):
 (results d b).run π c=.ok (.tuple #[γ x,b.getD e undef]) c:=by
 have f:b[a]?.getD undef=Z (W ⟨q,0,O⟩):=by simpa using k
 have i:=run_loadVar_row (P:=π) c q 220 220 x (0,0) _ j underlying220 rfl (by rw[l];kernel_rfl);simp[results,g,asAddr,f,i,Sem.run_bind,Result.andThen]
theorem je(a j i:Nat)(g:NS)(w:World)(d:yp w a j i g []):Calls π 106 #[Z (W ⟨a,0,O⟩)] w λe w'=>e=ρ (.tuple #[γ #[V I 0,V I 0,Y O 0 0],β false])/\Below w.heap.size w w':=by
 obtain⟨⟨T,c,cap,b,f⟩,_⟩:=d;have k:=aK (o:=J #[V I 0,V I 0,Y O 0 0] 220) (lt_of_heap b) (show w.cell? ⟨a,0,O⟩=W (Y c 0 cap)from ae b 0);clear b f
 go_enter func106,ntmps106
 go_wp2_with fail
 exact bodyPost_ret (g9 results106 _ w.heap.size #[V I 0,V I 0,Y O 0 0] _ (af w _) rfl rfl) rfl ⟨rfl,(ζ _ _).alloc (η _) _⟩
theorem cM(j f b:Nat)(s:NS)(e:Tp.En)(c:List Tp.En)(w:World)(m:yp w j f b s (e::c)):∃v,Row w s e.l.length v (xZ e.l)/\Calls π 106 #[Z (W ⟨j,0,O⟩)] w λx w'=>x=ρ (.tuple #[γ #[V I e.no,V I e.col,v],β true])/\Below w.heap.size w w':=by
 obtain⟨⟨T,ac,cap,l,M,N,t⟩,⟨P,S,d,u,g⟩,ad,R,X,al⟩:=m;obtain rfl:=t (by simp);unfold x9 at u;obtain⟨v,ab,p,rfl,_⟩:=u;refine⟨v,p,?_⟩;obtain⟨A,C,E,rfl⟩:∃a n G,v=Y a n G:=by obtain⟨a,_,_,G,m,_⟩:=p;exact⟨_,_,_,m⟩
 have q:w.cell? ⟨j,0,O⟩=W (Y (W ⟨f,b,O⟩) (c.length+1) cap):=ae l 0;have z:w.cell? ⟨f,b,O⟩=W (V I e.no):=(ae d b).trans (g 0 _ rfl);have y:w.cell? ⟨f,b+1,O⟩=W (V I e.col):=(ae d (b+1)).trans (g 1 _ rfl);have r:w.cell? ⟨f,b+2,O⟩=W (Y A C E):=(ae d (b+2)).trans (g 2 _ rfl);have i:=lt_of_heap d
 replace q:=aK (o:=J #[V I 0,V I 0,Y O 0 0] 220) (lt_of_heap l) q
 replace z:=aK (o:=J #[V I 0,V I 0,Y O 0 0] 220) i z
 replace y:=aK (o:=J #[V I 0,V I 0,Y O 0 0] 220) i y
 replace r:=aK (o:=J #[V I 0,V I 0,Y O 0 0] 220) i r
 have L:∀k,(binOp .eql 3 (V I (((c.length+1:Nat)):Int)) (V I 0)).run π k=.ok (β false) k:=λk=>by simp[go_sem];omega
 have H:(0:Int) < ((c.length+1:Nat):Int):=by omega
 obtain⟨D,F⟩:∃D,c.length+1=D:=⟨_,rfl⟩;rw[F]at q L H;clear l M N t d g p F
 go_enter func106,ntmps106
 go_wp2_with fail
 exact bodyPost_ret (g9 results106 _ w.heap.size #[V I e.no,V I e.col,Y A C E] _ (af w _) rfl rfl) rfl ⟨rfl,(ζ _ _).alloc (η _) _⟩
theorem ni(a j g:Nat)(n:NS)(e:Tp.En)(b:List Tp.En)(w:World)(S:yp w a j g n (e::b)):Calls π 156 #[Z (W ⟨a,0,O⟩)] w λx w'=>(∃v,x=ρ v)/\yp w' a j (g+3) n b/\Far (·=a) w w':=by
 obtain⟨⟨T,av,cap,c,l,ao,E⟩,⟨al,G,u,r,s⟩,y,t,H,N⟩:=S;obtain rfl:=E (by simp);unfold x9 at r;obtain⟨v,L,X,rfl,z⟩:=r;have an:=zF c 0 rfl;have ac:=ag c 0;simp only[zO]at l;have ab:(1:Int)<=((b.length+1:Nat):Int):=by omega
 have ad:((b.length+1:Nat):Int)<=(cap:Int):=by omega
 have q:∀f d,d<=maxLen->b.length<=d->(b≠[]->f=W ⟨j,g+3,O⟩)->yp (w.setCell ⟨a,0,O⟩ (Y f b.length d)) a j (g+3) n b/\Far (·=a) w (w.setCell ⟨a,0,O⟩ (Y f b.length d)):=λf d P F R=>by
  have m:Far (·=a) w (w.setCell ⟨a,0,O⟩ (Y f b.length d)):=Far.setCell (D:=(·=a)) (ξ _ _) (p:=⟨a,0,O⟩) (λ_=>rfl) _;exact⟨⟨⟨T,f,d,ai c 0 _,F,P,R⟩,⟨L,G,m.heap u y,x9.far m (λk o _ e=>t (e ▸ o)) _ _ z,λi x M=>by rw[Nat.add_assoc,Nat.add_comm 3 i];exact s (i+3) x M⟩,y,t,H,λk o=>zK (N k o) m.size⟩,m⟩
 have A:=zD q;clear c u s X z q
 go_enter func156,ntmps156
 go_wp2_with fail
 all_goals first
  | (obtain⟨c,l⟩:=A.out (W ⟨j,g+3,O⟩) (cap - 1) (by omega) (by omega) (fun _=>rfl)
     go_end0
     exact⟨⟨_,rfl⟩,c,l⟩)
  | (obtain⟨c,l⟩:=A.out (W ⟨j,g,O⟩) 0 (by omega) (by omega) (fun C=>absurd (List.eq_nil_of_length_eq_zero (by omega)) C)
     go_end0
     exact⟨⟨_,rfl⟩,c,l⟩)
end Go.Proofs.YtbikgdhbiebhcaaGreatDoor
