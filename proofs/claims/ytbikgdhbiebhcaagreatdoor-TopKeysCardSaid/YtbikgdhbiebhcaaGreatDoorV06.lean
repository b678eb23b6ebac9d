/- Part 6. -/
import Derived.Test.YtbikgdhbiebhcaaGreatDoorV05
import Derived.DeepKeys4
set_option linter.unusedVariables false
set_option linter.unusedSimpArgs false
set_option maxRecDepth 100000
set_option maxHeartbeats 2000000
open Go.Value renaming int -> V, string -> U, slice -> Y, pointer -> Z, func -> φ, agg -> γ, bool -> β
open Go.IntKind renaming i64 -> I
open Option renaming some -> W, none -> O
open Go.Obj renaming cells -> J
open Go.Ending renaming returned -> ρ
open Go.Proofs.Tryz renaming prog -> π
open Nat renaming le_refl -> η
open Go.RowKit.Below renaming refl -> ζ
namespace Go.Proofs.YtbikgdhbiebhcaaGreatDoor
open Go.RowKit Tryz
section
attribute [local go_sem] ak
attribute [local go_sem] Oper.semAt_some
def DR(d:Nat)(x:Tp.Sc × Tp.Tree)(c:Value)(b:NS)(e:World):Prop:=∃a:List Value,c=.iface 496 (γ (V I x.1.k::V I x.1.n::xR x.1.s::a).toArray)/\xS e b x.2 a/\∀k,b k->d<=k
structure DsI(w:World)(r:Nat)(xs:List (Tp.Sc × Tp.Tree))(t:Nat)(F:NS)(W:World):Prop where
 lt:∀k,F k->k < W.heap.size
 fr:∀k,F k->w.heap.size<=k
 two:F (w.heap.size+2)
 three:F (w.heap.size+3)
 res:W.heap[w.heap.size+2]? =some (J #[.nilIface] 433 (0,0))
 row:∃kv dv cs KF,W.heap[w.heap.size+3]? =some (J #[V I 2,U ⟨#[]⟩,V I 0,V I 0,U ⟨#[]⟩,kv,dv] 78 (0,0))/\W.ownsRow (w.heap.size+9) 30 3 kv t (xV ((xs.take t).map (·.1)))/\W.ownsRow (w.heap.size+9) 78 7 dv t cs/\(∀k,dv.ownBlock=some k->F k/\kv.ownBlock≠some k)/\(∀k,kv.ownBlock=some k->F k)/\xU W KF ((xs.take t).map (·.2)) cs/\∀k,KF k->F k/\k≠w.heap.size+2/\k≠w.heap.size+3/\dv.ownBlock≠some k/\kv.ownBlock≠some k
 far:Far (·=r) w W
 box:W.heap[w.heap.size]? =some (J #[Z (some ⟨r,0,O⟩)] 427 (0,0))
theorem DsI.step{w:World}{f:Nat}{xs:List (Tp.Sc × Tp.Tree)}{t:Nat}{g D:NS}{i p:World}(d:DsI w f xs t g i)(b:Far D i p)(G:f < w.heap.size)(c:∀k,D k->¬g k/\(k=f\/w.heap.size+7<=k)):DsI w f xs t g p:=by
 obtain⟨y,q,o,j,A,⟨kv,r,x,s,E,C,z,n,m,F,l⟩,u,v⟩:=d;exact⟨λk a=>zK (y k a) b.size,q,o,j,b.heap A (λe=>(c _ e).1 o),⟨kv,r,x,s,b.heap E (λe=>(c _ e).1 j),am C b (λk a e=>(c _ e).1 (m k a)),am z b (λk a e=>(c _ e).1 (n k a).1),n,m,xU.far b (λk a _ e=>(c _ e).1 (l k a).1) _ _ F,l⟩,u.step b (λk a e=>by rcases (c _ e).2 with d|d;exact d;omega),b.heap v (λe=>by rcases (c _ e).2 with d|d<;>omega)⟩
theorem br{b:World}{z:Nat}{c:List Value}{T:TypeId}(e:b.heap[z]? =W (J c.toArray T (0,0))):∀(j:Nat) (a:Value),c[j]? =W a->b.cell? ((⟨z,0,O⟩:Addr).add j)=W a:=by
 intro j a f;have d:(⟨z,0,O⟩:Addr).add j=⟨z,j,O⟩:=by unfold Addr.add;split<;>simp_all
 rw[d,ae e j]
 simpa using f
theorem ru:(prog.info? 30).map (λi=>(i.zero,i.size,i.bytes))=W (W (γ #[V I 0,V I 0,U ⟨#[]⟩]),3,32):=by kernel_rfl
theorem xc(x:Value)(a:World):(Instr.typeAssert (.iface 496 x) 433 496 false).run π a=.ok x a:=by kernel_rfl
theorem qA(n:Nat)(g7:∀m,m < n->zt m)(d g:Nat)(v:Value)(a1:List Tp.Tk)(i ac:Nat)(d3:List Tp.Sc)(da:List Tp.Tree)(rest:List Tp.Tk)(w:World)(dv:yg w d g v a1 i)(bw:Glob w)(hF:10<=d)(i7:g < w.heap.size)(i4:i < a1.length)(hN:ac<=100)(c0:Tp.fdict n (ac+1) (a1.drop (i+1))=W (d3,da,rest)):
 Calls π 297 #[Z (W ⟨d,0,O⟩),V I (ac:Int)] w (Ak d g v a1 (a1.length - rest.length) w ⟨2,[],Tp.Sc.null,d3,da⟩):=by
 obtain⟨xs,z,hL,fT,hk,hq,fl,hT,hm,jK⟩:=gm a1 n (ac+1) n (i+1) d3 da rest (η _) (by omega) c0;have i1:=dv.small;have dr:=dv.lt;have gk:=dr;obtain⟨j9,_⟩:=zM.1 fl;have hv:a1.length - rest.length=z+1:=by rw[hm,zZ];omega
 rw[hv];have i5:xs.length<=100000:=by have:=(fU (λp x q a=>a.1) _ _ _ fT).1;omega
 obtain⟨T,b6⟩:=dv.blk;have dc:=zF b6 1 rfl;have fY:=ag b6 1;obtain⟨hd,g5,hs,g2,hW,hE⟩:=zx6 dv bw g7 fT fl hk;have gx:=zD hq;clear dv bw g7 fT fl c0 hm hv b6 hk hq;refine callsIn_wide.1 (callsIn_of_wp_marks (n:=5) func297 rfl trivial (wpIn_wide.2 ?_));simp only[ntmps297,List.size_toArray,zO,List.length_nil,Nat.reduceAdd,Nat.reduceSub,Array.replicate_succ,Array.replicate_zero,List.push_toArray,List.append_toArray,List.nil_append,List.cons_append]
 go_upto_region 1 with (fail)
 have dj:Far xO w (((w.alloc (J #[Z (W ⟨d,0,O⟩)] 427)).alloc (J #[V I (ac:Int)] 3)).alloc (J #[.nilIface] 433)):=(((ξ _ w).alloc _).alloc _).alloc _;have c1:(((w.alloc (J #[Z (W ⟨d,0,O⟩)] 427)).alloc (J #[V I (ac:Int)] 3)).alloc (J #[.nilIface] 433)).heap[w.heap.size]? =W (J #[Z (W ⟨d,0,O⟩)] 427 (0,0)):=aa _ (aa _ (ah _ _ _ rfl));have d6:(((w.alloc (J #[Z (W ⟨d,0,O⟩)] 427)).alloc (J #[V I (ac:Int)] 3)).alloc (J #[.nilIface] 433)).heap[w.heap.size+1]? =W (J #[V I (ac:Int)] 3 (0,0)):=aa _ (ah _ _ _ (by simp));have e0:(((w.alloc (J #[Z (W ⟨d,0,O⟩)] 427)).alloc (J #[V I (ac:Int)] 3)).alloc (J #[.nilIface] 433)).heap[w.heap.size+1+1]? =W (J #[.nilIface] 433 (0,0)):=ah _ _ _ (by simp);have ch:(((w.alloc (J #[Z (W ⟨d,0,O⟩)] 427)).alloc (J #[V I (ac:Int)] 3)).alloc (J #[.nilIface] 433)).heap.size=w.heap.size+3:=by simp
 generalize (((w.alloc (J #[Z (W ⟨d,0,O⟩)] 427)).alloc (J #[V I (ac:Int)] 3)).alloc (J #[.nilIface] 433))=d4 at *;have hg:=hd.out.far dj (λe=>e) (λe=>e)
 replace dc:=dj.at dc id
 replace fY:=(dj.frozen (p:=⟨d,1,O⟩) dr (λe=>e)).trans fY
 have eM:=zF c1 0 rfl
 go_upto_region 2 with (fail)
 rw[show ((i:Int)+1)=((i+1:Nat):Int)by omega];have al:=hg.moved (i+1) (by omega);have hD:Far (·=d) w (d4.setCell ⟨d,1,O⟩ (V I ((i+1:Nat):Int))):=Far.setCell (D:=(·=d)) (dj.mono (λ_ _ e=>e.elim)) (p:=⟨d,1,O⟩) (λ_=>rfl) _;have ep:∀(k:Nat) (o:Obj),k≠d->d4.heap[k]? =W o->(d4.setCell ⟨d,1,O⟩ (V I ((i+1:Nat):Int))).heap[k]? =W o:=λk o f a=>(Below.heap_setCell _ _ _ _ f).trans a
 replace c1:=ep _ _ (by omega) c1
 replace d6:=ep _ _ (by omega) d6
 replace e0:=ep _ _ (by omega) e0
 replace ch:(d4.setCell ⟨d,1,O⟩ (V I ((i+1:Nat):Int))).heap.size=w.heap.size+3:=by rw[<-ch];simp[World.setCell]
 clear ep dc fY eM hg dj;generalize (d4.setCell ⟨d,1,O⟩ (V I ((i+1:Nat):Int)))=fG at *;have eM:=zF c1 0 rfl
 go_upto_region 4 with (fail)
 have hY:=aK (o:=J #[V I 2,U ⟨#[]⟩,V I 0,V I 0,U ⟨#[]⟩,Y O 0 0,Y O 0 0] 78) (lt_of_heap c1) eM;clear eM
 go_wp2_with fail
 refine(kF d 11 _ ⟨_,_,_,rfl⟩ _).mono ?_;rintro e cf ⟨rfl,co⟩;have fc:(fG.alloc (J #[V I 2,U ⟨#[]⟩,V I 0,V I 0,U ⟨#[]⟩,Y O 0 0,Y O 0 0] 78)).heap.size=w.heap.size+4:=by simp[ch]
 rw[fc];have b0:Far xO fG cf:=by rw[co];exact((((ξ _ fG).alloc _).alloc _).alloc _).alloc _
 have gO:cf.heap.size=w.heap.size+7:=by rw[co];simp[ch]
 have hi:cf.heap[w.heap.size+3]? =W (J #[V I 2,U ⟨#[]⟩,V I 0,V I 0,U ⟨#[]⟩,Y O 0 0,Y O 0 0] 78 (0,0)):=by rw[co];exact aa _ (aa _ (aa _ (ah _ _ _ ch.symm)))
 have hp:cf.heap[w.heap.size+4]? =W (J #[Z (W ⟨d,0,O⟩)] 427 (0,0)):=by rw[co];exact aa _ (aa _ (ah _ _ _ fc.symm))
 have gl:cf.heap[w.heap.size+4+1]? =W (J #[V I 11] 3 (0,0)):=by rw[co];exact aa _ (ah _ _ _ (by simp[ch]))
 have g1:cf.heap[w.heap.size+4+2]? =W (J #[φ (.func 316) #[] #[Z (W ⟨w.heap.size,0,O⟩),Z (W ⟨w.heap.size+1,0,O⟩)]] 490 (0,0)):=by rw[co];exact ah _ _ _ (by simp[ch])
 have fw:=b0.heap c1 (λe=>e);have hr:=b0.heap d6 (λe=>e);have gN:=b0.heap e0 (λe=>e);have gJ:=al.far b0 (λe=>e) (λe=>e);have gd:=hD.step b0 (λ_ _ e=>e.elim);have g8:=g5.out.far gd (λk f e=>by omega);clear co fc ch hY c1 d6 e0 al hD b0;have hz:DsI w d xs 0 (λk=>k=w.heap.size+2\/k=w.heap.size+3) cf:=⟨λk f=>by omega,λk f=>by omega,.inl rfl,.inr rfl,gN,⟨Y O 0 0,Y O 0 0,[],xO,hi,World.ownsRow_nil _ _ _ _,World.ownsRow_nil _ _ _ _,λk a=>by simp[Value.ownBlock]at a,λk a=>by simp[Value.ownBlock]at a,by rw[List.take_zero];unfold xU;rfl,λ_ a=>a.elim⟩,gd,fw⟩;have hl:∀p x q,AV n (ac+1) a1 p x q->p<=q/\∀r,yg r d g v a1 p->AD [(w.heap.size+4,J #[Z (W ⟨d,0,O⟩)] 427 (0,0)),(w.heap.size+4+1,J #[V I 11] 3 (0,0)),(w.heap.size+4+2,J #[φ (.func 316) #[] #[Z (W ⟨w.heap.size,0,O⟩),Z (W ⟨w.heap.size+1,0,O⟩)]] 490 (0,0)),(w.heap.size,J #[Z (W ⟨d,0,O⟩)] 427 (0,0)),(w.heap.size+1,J #[V I (ac:Int)] 3 (0,0))] r->Glob r->Calls π 316 #[Z (W ⟨w.heap.size,0,O⟩),Z (W ⟨w.heap.size+1,0,O⟩)] r λe bD=>∃T cT,e=ρ (.iface T (γ cT))/\(T=487\/T=496)/\DR w.heap.size x (.iface T (γ cT)) (λk=>r.heap.size<=k/\k < bD.heap.size) bD/\yg bD d g v a1 q/\Far (·=d) r bD:=λp x q hb=>⟨hb.1,λr j f bw=>by
  refine(sq n hs.out d g v a1 ac hF w.heap.size (w.heap.size+1) p q x hb hN r j (f (w.heap.size,J #[Z (W ⟨d,0,O⟩)] 427 (0,0)) (by simp)) (f (w.heap.size+1,J #[V I (ac:Int)] 3 (0,0)) (by simp)) bw).mono ?_;rintro e bD ⟨⟨cT,rfl,a4⟩,h1,c2⟩;have h8:w.heap.size<=r.heap.size:=Nat.le_of_lt (lt_of_heap (f (w.heap.size,J #[Z (W ⟨d,0,O⟩)] 427 (0,0)) (by simp)));exact⟨496,_,rfl,.inr rfl,⟨cT,rfl,xS.mono (λk gc f8=>⟨gc,f8⟩) _ _ a4,λk a=>Nat.le_trans h8 a.1⟩,h1,c2⟩⟩
 have hw:=ik 316 (.inr rfl) (AV n (ac+1) a1) (DR w.heap.size) (λx gr b8 D r bD a ab hK=>by
  obtain⟨cT,rfl,a4,b6⟩:=a;exact⟨cT,rfl,xS.far ab (λk a _=>hK k a) _ _ a4,b6⟩) d g v a1 11 xs (i+1) z w.heap.size (w.heap.size+1) (w.heap.size+4) (w.heap.size+4+1) (w.heap.size+4+2) (ac:Int) _ rfl (λp j=>by
   simp only[List.mem_cons,List.mem_nil_iff,or_false]at j;rcases j with rfl|rfl|rfl|rfl|rfl<;>exact⟨by simp only;omega,by simp only;omega⟩) hl g2.out hF cf (by omega) (by
   intro p j;simp only[List.mem_cons,List.mem_nil_iff,or_false]at j;rcases j with rfl|rfl|rfl|rfl|rfl
   ·exact hp
   ·exact gl
   ·exact g1
   ·exact fw
   ·exact hr) gJ g8
 obtain⟨iC,ca,hQ⟩:=zx3 hz gO hw;clear hz gO hw hl fw hr gN hi hp gl g1 gd g8 gJ hd g5 hs g2
 go_wp2_with fail
 refine wpIn_wide.1 (aC (n:=5) (gf:=326) (lb:=#[Z (W ⟨w.heap.size+4,0,O⟩),Z (W ⟨w.heap.size+4+1,0,O⟩),Z (W ⟨w.heap.size+4+2,0,O⟩)]) rfl (λargs wx=>kT args wx)
  hQ.out (λk e=>by have:=ca.out;omega) (λk e=>by
   have:=ca.out;rcases e with a|a|⟨p,j,rfl⟩
   ·omega
   ·omega
   ·simp only[List.mem_cons,List.mem_nil_iff,or_false]at j
    rcases j with rfl|rfl|rfl|rfl|rfl<;>simp only<;>omega) (λt v b8 r a=>by obtain⟨x,gr,_,rfl,_⟩:=a;rfl)
  (DsI w d xs) (λ_ _ _=>False) (λk=>k=w.heap.size+2\/k=w.heap.size+3) (λk a=>by
   have:=ca.out;refine⟨by omega,?_,by omega,by omega,λ_=>by omega⟩;rintro (iw|iw|⟨p,j,rfl⟩)
   ·omega
   ·omega
   ·simp only[List.mem_cons,List.mem_nil_iff,or_false]at j
    rcases j with rfl|rfl|rfl|rfl|rfl<;>simp only at a<;>omega) iC.out ?hI (λ_ _ _ _ a _=>a) (λ_ _ _ _=>trivial) ?hFin ?round ?done (λ_ _ _ a=>a.elim))
 case hI=>
  intro t cv r bD a ab;exact a.step ab dr (λk e=>by have:=ca.out;exact⟨e.1,by rcases e.2 with a|a<;>omega⟩)
 case hFin=>
  intro r bD a ab;exact a.far ab (λe=>by have:=ca.out;omega) (λe=>by have:=ca.out;omega)
 case round=>
  rintro t cv b8 kl r K jb dr hI ⟨x,gr,g0,rfl,cT,rfl,a4,a5⟩ bw b3 c;obtain⟨k,N,L,F,G,A,C,P,H,E,M,rfl⟩:=a4.form;obtain⟨SX,el⟩:∃SX:ByteArray,xR x.1.s=U SX:=⟨_,rfl⟩;rw[el];have i9:=ux (γ #[V I x.1.k,V I x.1.n,U SX,V I k,U N,V I L,V I F,U G,Y A C P,Y H E M]);have js:=xc (γ #[V I x.1.k,V I x.1.n,U SX,V I k,U N,V I L,V I F,U G,Y A C P,Y H E M]);have ej:=ca.out;rw[ej]at bw b3 dr
  gi_wp2
  refine c _ _ (ξ _ r) ?_;intro b ds hU h3;rw[ej]at ds;have kb:=ds.size;have hC:=hI.step ds gk (λk e=>⟨λa=>(b3 k a).2.1 e,by omega⟩);have gR:=xS.far ds (λk a _ e=>(bw k a).2.2.1 e) _ _ a4;have hB:∀k,b8 k->¬cv k/\k < b.heap.size/\w.heap.size<=k:=λk a=>⟨(bw k a).1,by have:=(bw k a).2.2.2;omega,a5 k a⟩;obtain⟨cc,gg,f7,g6⟩:=zx4 hB gR hC g0;clear hI a4 bw b3 c ds hU h3 g0 hC gR hB;have el:=zD el
  gi_wp2_with fail
  have eq:Far xO b ((b.alloc (J #[.nilIface] 436)).alloc (J #[V I x.1.k,V I x.1.n,U SX,V I k,U N,V I L,V I F,U G,Y A C P,Y H E M] 496)):=((ξ _ b).alloc _).alloc _;have g3:=f7.out.step eq gk (λk e=>e.elim);have f4:=xS.far eq (λk _ _ e=>e) _ _ gg.out;have al:((b.alloc (J #[.nilIface] 436)).alloc (J #[V I x.1.k,V I x.1.n,U SX,V I k,U N,V I L,V I F,U G,Y A C P,Y H E M] 496)).heap[b.heap.size+1]? =W (J #[V I x.1.k,V I x.1.n,U SX,V I k,U N,V I L,V I F,U G,Y A C P,Y H E M] 496 (0,0)):=ah _ _ _ (by simp);have d2:=f7.out.lt;have hH:b.heap.size+2<=((b.alloc (J #[.nilIface] 436)).alloc (J #[V I x.1.k,V I x.1.n,U SX,V I k,U N,V I L,V I F,U G,Y A C P,Y H E M] 496)).heap.size:=by simp
  clear f7 gg;generalize hW3:((b.alloc (J #[.nilIface] 436)).alloc (J #[V I x.1.k,V I x.1.n,U SX,V I k,U N,V I L,V I F,U G,Y A C P,Y H E M] 496))=l at eq g3 f4 al hH ⊢;clear hW3;obtain⟨gb,ct,dJ,c6,d0,⟨kv,cS,es,dW,a0,ad,bk,be,bR,ck,ao⟩,di,db⟩:=g3;obtain⟨R,S,rfl⟩:∃y u,kv=Y y t u:=by
   rcases ad.2 with ⟨an,d5⟩|⟨e2,fR,e3,an,_⟩
   ·exact⟨O,0,by rw[an,d5]⟩
   ·exact⟨_,_,an⟩
  obtain⟨y,u,rfl⟩:∃y u,cS=Y y t u:=by
   rcases bk.2 with ⟨an,d5⟩|⟨e2,fR,e3,an,_⟩
   ·exact⟨O,0,by rw[an,d5]⟩
   ·exact⟨_,_,an⟩
  obtain⟨it,h2,ih,hZ,h5⟩:=info_parts nL;obtain⟨f2,fz,f5,f1,fs⟩:=info_parts ru;have e9:∀k,(Value.slice R t S).ownBlock=W k->k < b.heap.size:=λk a=>d2 k (bR k a);have hx:∀k,(Value.slice y t u).ownBlock=W k->k < b.heap.size:=λk a=>d2 k (be k a).1;have gZ:l.cell? ⟨w.heap.size+3,5,O⟩=W (Y R t S)/\l.cell? ⟨w.heap.size+3,6,O⟩=W (Y y t u)/\l.cell? ⟨b.heap.size+1,0,O⟩=W (V I x.1.k)/\l.cell? ⟨b.heap.size+1,1,O⟩=W (V I x.1.n)/\l.cell? ⟨b.heap.size+1,2,O⟩=W (U SX)/\l.cell? ⟨b.heap.size+1,3,O⟩=W (V I k)/\l.cell? ⟨b.heap.size+1,4,O⟩=W (U N)/\l.cell? ⟨b.heap.size+1,5,O⟩=W (V I L)/\l.cell? ⟨b.heap.size+1,6,O⟩=W (V I F)/\l.cell? ⟨b.heap.size+1,7,O⟩=W (U G)/\l.cell? ⟨b.heap.size+1,8,O⟩=W (Y A C P)/\l.cell? ⟨b.heap.size+1,9,O⟩=W (Y H E M):=⟨ae a0 5,ae a0 6,ae al 0,ae al 1,ae al 2,ae al 3,ae al 4,ae al 5,ae al 6,ae al 7,ae al 8,ae al 9⟩;have bs:∀wx,Far (λk=>(Value.slice R t S).ownBlock=W k\/(Value.slice y t u).ownBlock=W k) l wx->wx.cell? ⟨w.heap.size+3,5,O⟩=W (Y R t S)/\wx.cell? ⟨w.heap.size+3,6,O⟩=W (Y y t u)/\wx.cell? ⟨b.heap.size+1,0,O⟩=W (V I x.1.k)/\wx.cell? ⟨b.heap.size+1,1,O⟩=W (V I x.1.n)/\wx.cell? ⟨b.heap.size+1,2,O⟩=W (U SX)/\wx.cell? ⟨b.heap.size+1,3,O⟩=W (V I k)/\wx.cell? ⟨b.heap.size+1,4,O⟩=W (U N)/\wx.cell? ⟨b.heap.size+1,5,O⟩=W (V I L)/\wx.cell? ⟨b.heap.size+1,6,O⟩=W (V I F)/\wx.cell? ⟨b.heap.size+1,7,O⟩=W (U G)/\wx.cell? ⟨b.heap.size+1,8,O⟩=W (Y A C P)/\wx.cell? ⟨b.heap.size+1,9,O⟩=W (Y H E M):=λwx ab=>by
   have b6:=ab.heap a0 (λe=>by rcases e with e|e;(have:=(ad.lt _ e).1;omega);have:=(bk.lt _ e).1;omega);have j:=ab.heap al (λe=>by rcases e with e|e;(have:=e9 _ e;omega);have:=hx _ e;omega);exact⟨ae b6 5,ae b6 6,ae j 0,ae j 1,ae j 2,ae j 3,ae j 4,ae j 5,ae j 6,ae j 7,ae j 8,ae j 9⟩
  have ek:t+1<=maxLen:=by unfold maxLen;omega
  refine aN (λw'=>w'.cell? ⟨w.heap.size+3,5,O⟩=W (Y R t S)/\w'.cell? ⟨w.heap.size+3,6,O⟩=W (Y y t u)/\w'.cell? ⟨b.heap.size+1,0,O⟩=W (V I x.1.k)/\w'.cell? ⟨b.heap.size+1,1,O⟩=W (V I x.1.n)/\w'.cell? ⟨b.heap.size+1,2,O⟩=W (U SX)/\w'.cell? ⟨b.heap.size+1,3,O⟩=W (V I k)/\w'.cell? ⟨b.heap.size+1,4,O⟩=W (U N)/\w'.cell? ⟨b.heap.size+1,5,O⟩=W (V I L)/\w'.cell? ⟨b.heap.size+1,6,O⟩=W (V I F)/\w'.cell? ⟨b.heap.size+1,7,O⟩=W (U G)/\w'.cell? ⟨b.heap.size+1,8,O⟩=W (Y A C P)/\w'.cell? ⟨b.heap.size+1,9,O⟩=W (Y H E M)) [14,15,16] (by kernel_rfl) (by kernel_rfl) (λa=>by obtain⟨_,_,a⟩:=a;exact a) ?_;refine aJ (by kernel_rfl) (λ_ _ _ _ a=>a) gZ 8 [0,1,2,3,6,7,8,9,10] _ _ (by kernel_rfl) ?_;iterate 9 (refine xT.take (v:=?_) rfl (by kernel_rfl) ?_ ?_;rotate_left;·(intro eg a3;(try dsimp only at a3);(try obtain⟨dn,d1,fv,f9,ft,f0,fL,e6,ga,fS,f3,e5⟩:=a3);go_simp;try with_reducible rfl);try go_frame)
  refine xT.done ?_;try dsimp only
  have ei:Far xO l l.drew:=(ξ _ l).drew;generalize hU0:l.drew=c9 at ei ⊢;clear hU0 gZ;refine aq [4,11] ?_;refine aj rfl (λK c=>?_) (aj rfl (λK c=>?_) (xQ.nil))
  go_simp
  have bn:=ei.alloc (J #[V I x.1.k,V I x.1.n,U SX] 30);have a6:=af c9 (J #[V I x.1.k,V I x.1.n,U SX] 30);refine c.out _ _ (λ_=>bs _ (bn.mono (λk _ e=>e.elim))) ?_;clear c K;try go_frame
  generalize hq9:c9.heap.size=ex at a6 ⊢;generalize hV9:c9.alloc (J #[V I x.1.k,V I x.1.n,U SX] 30)=b1 at bn a6 ⊢;clear hV9 hq9;refine aq [5,11] ?_;refine aj rfl (λK c=>?_) (aj rfl (λK c=>?_) (xQ.nil));have b9:=br a6;have b5:=am ad bn (λ_ _ e=>e);have dg:=bn.size;refine wp_append_lies b1 (.tmp 37) (.tmp 40) 28 rfl (w.heap.size+9) 30 f2 _ 3 32 underlying28 fz f5 f1 fs rfl (by decide) (Y R t S) t _ rfl b5 ⟨ex,0,O⟩ 1 1 [V I x.1.k,V I x.1.n,U SX] rfl rfl b9 (by simp[Value.oneCell']) (by decide) ek (by omega) (by omega) b1.heap.size rfl ?_;intro X c5 bq a9 av ba cl;have f6:Far (λk=>(Value.slice R t S).ownBlock=W k) l bq:=(bn.mono (λ_ _ e=>e.elim)).grown av (λk e _=>e);have dp:(Value.slice R t S).ownBlock=W X\/l.heap.size<=X:=by
   rcases ba with e|e
   ·exact .inl e
   ·exact .inr (by omega)
  clear av ba b9 b5 dg;have bb:=bs _ (f6.mono (λ_ _ e=>.inl e));refine c.out _ _ (λ_=>bb) ?_;clear c K;try go_frame
  refine aJ (by kernel_rfl) (λ_ _ _ _ a=>a) bb 5 [13] _ _ (by kernel_rfl) ?_;iterate 1 (refine xT.take (v:=?_) rfl (by kernel_rfl) ?_ ?_;rotate_left;·(intro eg a3;(try dsimp only at a3);(try obtain⟨dn,d1,fv,f9,ft,f0,fL,e6,ga,fS,f3,e5⟩:=a3);go_simp;try with_reducible rfl);try go_frame)
  refine xT.done ?_;try dsimp only
  clear bb;refine aq [11] ?_;refine aj rfl (λK c=>?_) xQ.nil
  go_simp
  have b2:=f6.alloc (J #[V I k,U N,V I L,V I F,U G,Y A C P,Y H E M] 78);have s:=af bq (J #[V I k,U N,V I L,V I F,U G,Y A C P,Y H E M] 78);have ho:=a9.alloc (J #[V I k,U N,V I L,V I F,U G,Y A C P,Y H E M] 78);clear a9;have a9:=ho;clear ho;refine c.out _ _ (λ_=>bs _ (b2.mono (λk _ e=>.inl e))) ?_;clear c K;try go_frame
  have dl:=f6.size;generalize hq9:bq.heap.size=fE at s ⊢;generalize hV9:bq.alloc (J #[V I k,U N,V I L,V I F,U G,Y A C P,Y H E M] 78)=cb at b2 s a9 ⊢;rw[hq9]at dl
  replace cl:X < cb.heap.size:=by rw[<-hV9];simp;omega
  clear hV9 hq9;have b4:=b2;have a2:∃r,cb=r:=⟨_,rfl⟩;obtain⟨dA,a2⟩:=a2;rw[a2]at b4 a9 s cl ⊢;clear a2
  rotate_left
  go_simp
  have bm:=bn.alloc (J #[V I k,U N,V I L,V I F,U G,Y A C P,Y H E M] 78);have s:=af b1 (J #[V I k,U N,V I L,V I F,U G,Y A C P,Y H E M] 78);have hG:=aa (J #[V I k,U N,V I L,V I F,U G,Y A C P,Y H E M] 78) a6;clear a6;have a6:=hG;clear hG;refine c.out _ _ (λ_=>bs _ (bm.mono (λk _ e=>e.elim))) ?_;clear c K;try go_frame
  have dl:=bn.size;generalize hq9:b1.heap.size=fE at s ⊢;generalize hV9:b1.alloc (J #[V I k,U N,V I L,V I F,U G,Y A C P,Y H E M] 78)=bq at bm s a6 ⊢;rw[hq9]at dl;clear hV9 hq9;refine aq [5] ?_;refine aj rfl (λK c=>?_) xQ.nil;have b9:=br a6;have b5:=am ad bm (λ_ _ e=>e);have dg:=bm.size;refine wp_append_lies bq (.tmp 37) (.tmp 40) 28 rfl (w.heap.size+9) 30 f2 _ 3 32 underlying28 fz f5 f1 fs rfl (by decide) (Y R t S) t _ rfl b5 ⟨ex,0,O⟩ 1 1 [V I x.1.k,V I x.1.n,U SX] rfl rfl b9 (by simp[Value.oneCell']) (by decide) ek (by omega) (by omega) bq.heap.size rfl ?_;intro X c5 cb a9 av ba cl;have b2:Far (λk=>(Value.slice R t S).ownBlock=W k) l cb:=(bm.mono (λ_ _ e=>e.elim)).grown av (λk e _=>e);have dp:(Value.slice R t S).ownBlock=W X\/l.heap.size<=X:=by
   rcases ba with e|e
   ·exact .inl e
   ·exact .inr (by omega)
  have df:=(av.block _ (lt_of_heap s) (λe=>by have:=(ad.lt _ e.symm).2;have:=e9 _ e.symm;omega)).trans s;clear s;have s:=df;clear df;clear av ba b9 b5 dg;have bb:=bs _ (b2.mono (λ_ _ e=>.inl e));refine c.out _ _ (λ_=>bb) ?_;clear c K;try go_frame
  refine aJ (by kernel_rfl) (λ_ _ _ _ a=>a) bb 4 [13] _ _ (by kernel_rfl) ?_;iterate 1 (refine xT.take (v:=?_) rfl (by kernel_rfl) ?_ ?_;rotate_left;·(intro eg a3;(try dsimp only at a3);(try obtain⟨dn,d1,fv,f9,ft,f0,fL,e6,ga,fS,f3,e5⟩:=a3);go_simp;try with_reducible rfl);try go_frame)
  refine xT.done ?_;try dsimp only
  clear bb;have b4:=b2;have a2:∃r,cb=r:=⟨_,rfl⟩;obtain⟨dA,a2⟩:=a2;rw[a2]at b4 a9 s cl ⊢;clear a2
  rotate_left
  go_simp
  have bn:=ei.alloc (J #[V I k,U N,V I L,V I F,U G,Y A C P,Y H E M] 78);have s:=af c9 (J #[V I k,U N,V I L,V I F,U G,Y A C P,Y H E M] 78);refine c.out _ _ (λ_=>bs _ (bn.mono (λk _ e=>e.elim))) ?_;clear c K;try go_frame
  have dl:=ei.size;generalize hq9:c9.heap.size=fE at s ⊢;generalize hV9:c9.alloc (J #[V I k,U N,V I L,V I F,U G,Y A C P,Y H E M] 78)=b1 at bn s ⊢;rw[hq9]at dl;clear hV9 hq9;refine aq [4] ?_;refine aj rfl (λK c=>?_) xQ.nil
  go_simp
  have bm:=bn.alloc (J #[V I x.1.k,V I x.1.n,U SX] 30);have a6:=af b1 (J #[V I x.1.k,V I x.1.n,U SX] 30);have gQ:=aa (J #[V I x.1.k,V I x.1.n,U SX] 30) s;clear s;have s:=gQ;clear gQ;refine c.out _ _ (λ_=>bs _ (bm.mono (λk _ e=>e.elim))) ?_;clear c K;try go_frame
  generalize hq9:b1.heap.size=ex at a6 ⊢;generalize hV9:b1.alloc (J #[V I x.1.k,V I x.1.n,U SX] 30)=bq at bm a6 s ⊢;clear hV9 hq9;refine aq [5] ?_;refine aj rfl (λK c=>?_) xQ.nil;have b9:=br a6;have b5:=am ad bm (λ_ _ e=>e);have dg:=bm.size;refine wp_append_lies bq (.tmp 37) (.tmp 40) 28 rfl (w.heap.size+9) 30 f2 _ 3 32 underlying28 fz f5 f1 fs rfl (by decide) (Y R t S) t _ rfl b5 ⟨ex,0,O⟩ 1 1 [V I x.1.k,V I x.1.n,U SX] rfl rfl b9 (by simp[Value.oneCell']) (by decide) ek (by omega) (by omega) bq.heap.size rfl ?_;intro X c5 cb a9 av ba cl;have b2:Far (λk=>(Value.slice R t S).ownBlock=W k) l cb:=(bm.mono (λ_ _ e=>e.elim)).grown av (λk e _=>e);have dp:(Value.slice R t S).ownBlock=W X\/l.heap.size<=X:=by
   rcases ba with e|e
   ·exact .inl e
   ·exact .inr (by omega)
  have df:=(av.block _ (lt_of_heap s) (λe=>by have:=(ad.lt _ e.symm).2;have:=e9 _ e.symm;omega)).trans s;clear s;have s:=df;clear df;clear av ba b9 b5 dg;have bb:=bs _ (b2.mono (λ_ _ e=>.inl e));refine c.out _ _ (λ_=>bb) ?_;clear c K;try go_frame
  refine aJ (by kernel_rfl) (λ_ _ _ _ a=>a) bb 4 [13] _ _ (by kernel_rfl) ?_;iterate 1 (refine xT.take (v:=?_) rfl (by kernel_rfl) ?_ ?_;rotate_left;·(intro eg a3;(try dsimp only at a3);(try obtain⟨dn,d1,fv,f9,ft,f0,fL,e6,ga,fS,f3,e5⟩:=a3);go_simp;try with_reducible rfl);try go_frame)
  refine xT.done ?_;try dsimp only
  clear bb;have b4:=b2;have a2:∃r,cb=r:=⟨_,rfl⟩;obtain⟨dA,a2⟩:=a2;rw[a2]at b4 a9 s cl ⊢;clear a2;all_goals (
   have i8:=cl;have jL:=b4.size;have hj:=am bk b4 (λk f e=>(be k f).2 e);refine aq [12] ?_;refine aj rfl (λK c=>?_) xQ.nil;refine wp_append_lies dA (.tmp 43) (.tmp 47) 76 rfl (w.heap.size+9) 78 it _ 7 104 underlying76 h2 ih hZ h5 rfl (by decide) (Y y t u) t es rfl hj ⟨fE,0,O⟩ 1 1 [V I k,U N,V I L,V I F,U G,Y A C P,Y H E M] rfl rfl (br s) (by simp[Value.oneCell']) (by decide) ek (by omega) (by omega) dA.heap.size rfl ?_;intro dC h4 dm e8 av ba kd;have en:Far (λk=>(Value.slice R t S).ownBlock=W k\/(Value.slice y t u).ownBlock=W k) l dm:=(b4.mono (λ_ _ e=>.inl e)).grown av (λk e _=>.inr e);have he:=bs _ en;refine c.out _ _ (λ_=>he) ?_;clear c K;try go_frame
   have gM:(Value.slice y t u).ownBlock≠W X:=λe=>by
    rcases dp with a|a
    ·exact(be X e).2 a
    ·have:=hx X e;omega
   have h0:X≠dC:=λe=>by
    rcases ba with a|a
    ·exact gM (e ▸ a)
    ·omega
   have hA:=am a9 ((ξ (λk=>(Value.slice y t u).ownBlock=W k) dA).grown av (λk e _=>e)) (λk e a=>by injection e with e;dsimp only at e;subst e;exact gM a);have fu:=en.heap a0 (λe=>by rcases e with e|e;(have:=(ad.lt _ e).1;omega);have:=(bk.lt _ e).1;omega);have i6:w.heap.size+9<=X:=(a9.lt X rfl).1;have kf:w.heap.size+9<=dC:=(e8.lt dC rfl).1;have hy:∀bx:World,bx.heap[w.heap.size+3]? =W (J #[V I 2,U ⟨#[]⟩,V I 0,V I 0,U ⟨#[]⟩,Y (W ⟨X,0,O⟩) (t+1) c5,Y (W ⟨dC,0,O⟩) (t+1) h4] 78 (0,0))->Far (·=w.heap.size+3) dm bx->
    ∃ha,DsI w d xs (t+1) ha bx/\Far cv b bx/\∀k,ha k->(cv k\/b8 k\/r.heap.size<=k)/\(True->k < bx.heap.size):=by
    intro bx ie ab;have cm:Far (λk=>k=w.heap.size+3\/(Value.slice R t S).ownBlock=W k\/(Value.slice y t u).ownBlock=W k) l bx:=(en.mono (λ_ _ e=>.inr e)).step ab (λk _ e=>.inl e);have hn:Far cv b bx:=(eq.mono (λ_ _ e=>e.elim)).step cm (λk f e=>by
     rcases e with rfl|e|e
     ·exact c6
     ·exact bR k e
     ·exact(be k e).1)
    have e4:∀k,(k=w.heap.size+3\/(Value.slice R t S).ownBlock=W k\/(Value.slice y t u).ownBlock=W k)->w.heap.size+3=k\/w.heap.size+9<=k:=λk a=>by
     rcases a with a|a|a
     ·exact .inl a.symm
     ·exact .inr (ad.lt k a).1
     ·exact .inr (bk.lt k a).1
    have a5:∀k,b8 k->k≠w.heap.size+2/\k≠w.heap.size+3/\(Value.slice y t u).ownBlock≠W k/\(Value.slice R t S).ownBlock≠W k:=λk f=>⟨λe=>(cc.out k f).1 (e ▸ dJ),λe=>(cc.out k f).1 (e ▸ c6),λe=>(cc.out k f).1 (be k e).1,λe=>(cc.out k f).1 (bR k e)⟩;have hc:∀k,k < b.heap.size->(Value.slice y t u).ownBlock≠W k->(Value.slice R t S).ownBlock≠W k->dC≠k/\X≠k:=λk f gc f8=>⟨λe=>by
     rcases ba with a|a
     ·exact gc (e ▸ a)
     ·omega,λe=>by
     rcases dp with a|a
     ·exact f8 (e ▸ a)
     ·omega⟩
    have h7:xU bx (λk=>dW k\/b8 k) ((xs.take (t+1)).map (·.2)) (es++[V I k,U N,V I L,V I F,U G,Y A C P,Y H E M]):=by
     rw[zG,g6.out,List.map_append];exact xU.snoc (xS.mono (λ_ a _=>.inr a) _ _ (xS.far cm (λk f _ e=>by
      rcases e with e|e|e
      ·exact(a5 k f).2.1 e
      ·exact(a5 k f).2.2.2 e
      ·exact(a5 k f).2.2.1 e) _ _ f4)) _ _ (xU.mono (λ_ a _=>.inl a) _ _ (xU.far cm (λk f _ e=>by
      rcases e with e|e|e
      ·exact(ao k f).2.2.1 e
      ·exact(ao k f).2.2.2.2 e
      ·exact(ao k f).2.2.2.1 e) _ _ ck))
    have hM:xV ((xs.take (t+1)).map (·.1))=xV ((xs.take t).map (·.1))++[V I x.1.k,V I x.1.n,U SX]:=by
     rw[zG,g6.out,List.map_append];unfold xV;rw[List.flatMap_append];simp[el.out]
    have jw:=hn.size;have ka:=ab.size;have kk:=cm.size;have kc:=av.size;refine⟨λk=>cv k\/b8 k\/(b.heap.size<=k/\k < bx.heap.size),⟨?_,?_,.inl dJ,.inl c6,cm.heap d0 (λe=>by rcases e4 _ e with a|a<;>omega),⟨_,_,_,λk=>dW k\/b8 k,ie,by rw[hM];exact am hA ab (λk e a=>by injection e with e;dsimp only at e;omega),am e8 ab (λk e a=>by injection e with e;dsimp only at e;omega),?_,?_,h7,?_⟩,di.step cm (λk f e=>by rcases e4 _ e with a|a<;>omega),cm.heap db (λe=>by rcases e4 _ e with a|a<;>omega)⟩,hn,?_⟩
    ·rintro k (a|a|a)
     ·have:=d2 k a;omega
     ·have:=(cc.out k a).2.1;omega
     ·exact a.2
    ·rintro k (a|a|a)
     ·exact ct k a
     ·exact(cc.out k a).2.2
     ·have:=a.1;omega
    ·intro k e
     injection e with e;dsimp only at e
     subst e;refine⟨?_,λe=>?_⟩
     ·rcases ba with a|a
      ·exact .inl (be _ a).1
      ·exact .inr (.inr (by omega))
     ·injection e with e
      exact h0 e
    ·intro k e
     injection e with e;dsimp only at e
     subst e;rcases dp with a|a
     ·exact .inl (bR _ a)
     ·exact .inr (.inr (by omega))
    ·rintro k (a|a)
     ·obtain⟨ef,er⟩:=hc k (d2 k (ao k a).1) (ao k a).2.2.2.1 (ao k a).2.2.2.2
      exact⟨.inl (ao k a).1,(ao k a).2.1,(ao k a).2.2.1,λe=>by injection e with e;exact ef e,λe=>by injection e with e;exact er e⟩
     ·obtain⟨ef,er⟩:=hc k (cc.out k a).2.1 (a5 k a).2.2.1 (a5 k a).2.2.2
      exact⟨.inr (.inl a),(a5 k a).1,(a5 k a).2.1,λe=>by injection e with e;exact ef e,λe=>by injection e with e;exact er e⟩
    ·rintro k (a|a|a)
     ·exact⟨.inl a,λ_=>by have:=d2 k a;omega⟩
     ·exact⟨.inr (.inl a),λ_=>by have:=(cc.out k a).2.1;omega⟩
     ·exact⟨.inr (.inr (by omega)),λ_=>a.2⟩
   have iv:=zD hy;clear hy e8 a9 hA b4 en gb ct dJ c6 d0 a0 bk ck di ao db ad bR be f4 av hj s bs al;obtain⟨dn,d1,_⟩:=he;have hP:=ag fu 5;refine aq [14] ?_;refine aj rfl (λK c=>?_) xQ.nil
   go_simp
   refine c.out _ _ (λa=>absurd (by simp) a) ?_;clear c K;try go_frame
   refine ee (by kernel_rfl) (λ_ _ _ _ a=>a) 1 [15] _ _ (by kernel_rfl) ?_;iterate 1 (refine xT.take (v:=?_) rfl (by kernel_rfl) ?_ ?_;rotate_left;·(intro eg a3;(try dsimp only at a3);(try obtain⟨kg,i2,jW⟩:=a3);go_simp;try with_reducible rfl);try go_frame)
   refine xT.done ?_;try dsimp only
   have e1:=ai fu 5 (Y (W ⟨X,0,O⟩) (t+1) c5);have g4:Far (·=w.heap.size+3) dm (dm.setCell ⟨w.heap.size+3,5,O⟩ (Y (W ⟨X,0,O⟩) (t+1) c5)):=Far.setCell (D:=(·=w.heap.size+3)) (ξ _ _) (p:=⟨w.heap.size+3,5,O⟩) (λ_=>rfl) _;generalize hW7:dm.setCell ⟨w.heap.size+3,5,O⟩ (Y (W ⟨X,0,O⟩) (t+1) c5)=i3 at e1 g4 ⊢;clear hW7 dn d1 hP fu;have ef:=zF e1 6 rfl;have er:=ag e1 6;refine aq [16] ?_;refine aj rfl (λK c=>?_) xQ.nil
   go_simp
   refine c.out _ _ (λa=>absurd (by simp) a) ?_;clear c K;refine aP (by kernel_rfl) ?_ _;exact iv.out _ (ai e1 6 _) (g4.trans (Far.setCell (D:=(·=w.heap.size+3)) (ξ _ _) (p:=⟨w.heap.size+3,6,O⟩) (λ_=>rfl) _)))
 case done=>
  rintro cv r hI hu c b3;have ej:=ca.out;rw[ej]at c b3 ⊢;obtain⟨gb,ct,dJ,c6,d0,⟨kv,cS,es,dW,a0,ad,bk,be,bR,ck,ao⟩,di,db⟩:=hI;rw[List.take_length]at ck ad;rw[gx.out]at ck;rw[hE.out]at ad;have ge:xs.length=d3.length:=by rw[<-hE.out,List.length_map]
  have ht:xs.length=da.length:=by rw[<-gx.out,List.length_map]
  have a5:∀k,(dW k\/kv.ownBlock=W k\/cS.ownBlock=W k)->w.heap.size<=k/\k≠w.heap.size+2/\k≠w.heap.size+7:=λk a=>by
   rcases a with a|a|a
   ·exact⟨ct k (ao k a).1,(ao k a).2.1,b3 k (ao k a).1⟩
   ·exact⟨ct k (bR k a),by have:=(ad.lt k a).1;omega,b3 k (bR k a)⟩
   ·exact⟨ct k (be k a).1,by have:=(bk.lt k a).1;omega,b3 k (be k a).1⟩
  have a4:xS r (λk=>dW k\/kv.ownBlock=W k\/cS.ownBlock=W k) ⟨2,[],Tp.Sc.null,d3,da⟩ [V I 2,U ⟨#[]⟩,V I 0,V I 0,U ⟨#[]⟩,kv,cS]:=by
   unfold xS;exact⟨kv,cS,es,rfl,by rw[<-ge];exact(cx ad).mono (λ_ a _=>.inr (.inl a)),xU.mono (λ_ a _=>.inl a) _ _ ck,by rw[<-ht];exact(cx bk).mono (λ_ a _=>.inr (.inr a))⟩
  have fX:=hO d g v a1 z hL _ _ _ r hu hW.out (λk a e=>by have:=(a5 k a).1;omega) a4;rw[hT]at fX;obtain⟨R,gj,S,rfl⟩:∃y c4 u,kv=Y y c4 u:=by
   rcases ad.2 with ⟨an,d5⟩|⟨e2,fR,e3,an,_⟩
   ·exact⟨_,_,_,an⟩
   ·exact⟨_,_,_,an⟩
  obtain⟨y,c4,u,rfl⟩:∃y c4 u,cS=Y y c4 u:=by
   rcases bk.2 with ⟨an,d5⟩|⟨e2,fR,e3,an,_⟩
   ·exact⟨_,_,_,an⟩
   ·exact⟨_,_,_,an⟩
  have hX:=zF db 0 rfl;have h9:=zF a0 0 rfl;have t1:=zF a0 1 rfl;have t2:=zF a0 2 rfl;have hS:=zF a0 3 rfl;have hR:=zF a0 4 rfl;have iY:=zF a0 5 rfl;have hV:=zF a0 6 rfl;obtain⟨hf,fr,e7,fn,iB⟩:=zx5 fX a5 c d0 di;clear fX a5 a4 hu c gb ct dJ c6 d0 a0 bk ck di ao db ad bR be b3 ge ht
  go_wp2_with fail
  refine hf.out.mono ?_;rintro e hh ⟨⟨rfl,a4⟩,j,ab⟩;have c3:=ab.heap fn.out (by omega);have f:=ab.heap e7.out (by omega);have b0:=iB.out.trans ab;have jj:=ag c3 0;have kh:=zF c3 0 rfl;obtain⟨h6,i0,hJ,fn,e7⟩:=zx5 a4 j b0 c3 f;clear a4 j ab c3 f b0 hf h9 t1 t2 hS hR iY hV hX
  go_wp2_with fail
  have c0:Far (·=w.heap.size+2) hh (hh.setCell ⟨w.heap.size+1+1,0,O⟩ (.iface 487 (γ #[V I 2,U ⟨#[]⟩,V I 0,V I 0,U ⟨#[]⟩,Y R gj S,Y y c4 u]))):=Far.setCell (D:=(·=w.heap.size+2)) (ξ _ _) (p:=⟨w.heap.size+1+1,0,O⟩) (λ_=>rfl) _;have c3:=ai fn.out 0 (.iface 487 (γ #[V I 2,U ⟨#[]⟩,V I 0,V I 0,U ⟨#[]⟩,Y R gj S,Y y c4 u]));refine au (q:=w.heap.size+7) rfl (c0.heap e7.out (by omega)) ?_;intro bD c2;have dc:=ae (c2.heap c3 (by omega)) 0;refine⟨_,eB results297 bD (w.heap.size+2) _ _ dc rfl ⟨_,_,rfl⟩,⟨_,rfl,xS.base (xS.far c2 (λk a _ e=>(fr.out k a).2.2 e) _ _ (xS.far c0 (λk a _ e=>(fr.out k a).2.1 e) _ _ h6.out)) (λk a=>(fr.out k a).1)⟩,(i0.out.far c0 (by omega) (by omega)).far c2 (by omega) (by omega),(hJ.out.step c0 (λk f e=>by omega)).step c2 (λk f e=>by omega)⟩
end
section
theorem ed{P:Program}{w:World}{a:Addr}(m:Mode):(store a .nilFunc m).run P w=stored P w a .nilFunc m:=run_store P w a _ m rfl
attribute [local go_sem] ed
theorem vL(n:Nat)(x b:Array Value)(a:World):(binOp .eql 434 (φ (.func n) x b) .nilFunc).run π a=.ok (β false) a:=by kernel_rfl
theorem b7(a g:Nat)(v:Value)(f:List Tp.Tk)(i l:Nat)(t:Tp.Tk)(w:World)(d j:Nat)(x:Tp.Tree)(C:yg w a g v f i)(m:f[i]? =W t)(X:l<=24)(G:(t.k=1/\d=293)\/(t.k=2/\d=293)\/(t.k=3/\d=294)\/(t.k=4/\d=295)\/(t.k=8/\d=296)\/(t.k=10/\d=297))
(y:∀c,Far xO w c->Calls π d #[Z (W ⟨a,0,O⟩),V I (l:Int)] c (Ak a g v f j w x)):
 Calls π 269 #[Z (W ⟨a,0,O⟩),V I (l:Int)] w (Ak a g v f j w x):=by
 have a0:=(zM.1 m).1;obtain⟨o,cap,rfl,r,c3,c4,s,q,H⟩:=C.tok m;have F:=λc=>uI (l:Int) 24 c;rw[decide_eq_false (by omega:¬(24:Int) < (l:Int))]at F;have N:=λc=>wG (i:Int) 0 c;rw[decide_eq_false (by omega:¬(i:Int) < 0)]at N;have D:=λc=>uJ (i:Int) (f.length:Int) c;rw[decide_eq_false (by omega:¬(f.length:Int)<=(i:Int))]at D;have a3:(0:Int)<=(i:Int):=by omega
 have T:(i:Int) < (f.length:Int):=by omega
 have L:=zD y;clear y C m;generalize t.k=K at *;have b:=af w (J #[.nilFunc,φ (.func 293) #[Z (W ⟨a,0,O⟩)] #[],φ (.func 293) #[Z (W ⟨a,0,O⟩)] #[],φ (.func 294) #[Z (W ⟨a,0,O⟩)] #[],φ (.func 295) #[Z (W ⟨a,0,O⟩)] #[],.nilFunc,.nilFunc,.nilFunc,φ (.func 296) #[Z (W ⟨a,0,O⟩)] #[],.nilFunc,φ (.func 297) #[Z (W ⟨a,0,O⟩)] #[]] 455);have k:Far xO w (w.alloc (J #[.nilFunc,φ (.func 293) #[Z (W ⟨a,0,O⟩)] #[],φ (.func 293) #[Z (W ⟨a,0,O⟩)] #[],φ (.func 294) #[Z (W ⟨a,0,O⟩)] #[],φ (.func 295) #[Z (W ⟨a,0,O⟩)] #[],.nilFunc,.nilFunc,.nilFunc,φ (.func 296) #[Z (W ⟨a,0,O⟩)] #[],.nilFunc,φ (.func 297) #[Z (W ⟨a,0,O⟩)] #[]] 455)):=(ξ _ w).alloc _;have p:=zD k
 go_enter func269,ntmps269
 go_upto_region 2 with (fail)
 replace s:=k.at s id
 replace q:=k.at q id
 replace r:=k.at r id
 generalize hwb:w.heap.size=an at b ⊢;generalize hW0:w.alloc (J #[.nilFunc,φ (.func 293) #[Z (W ⟨a,0,O⟩)] #[],φ (.func 293) #[Z (W ⟨a,0,O⟩)] #[],φ (.func 294) #[Z (W ⟨a,0,O⟩)] #[],φ (.func 295) #[Z (W ⟨a,0,O⟩)] #[],.nilFunc,.nilFunc,.nilFunc,φ (.func 296) #[Z (W ⟨a,0,O⟩)] #[],.nilFunc,φ (.func 297) #[Z (W ⟨a,0,O⟩)] #[]] 455)=S at s q r b p ⊢;have ac:=zF b 1 rfl;have ao:=zF b 2 rfl;have al:=zF b 3 rfl;have av:=zF b 4 rfl;have a2:=zF b 8 rfl;have ad:=zF b 10 rfl;clear c3 c4 H k b hwb hW0;have a1:=λn=>vL n #[Z (W ⟨a,0,O⟩)] #[];rcases G with ⟨rfl,rfl⟩|⟨rfl,rfl⟩|⟨rfl,rfl⟩|⟨rfl,rfl⟩|⟨rfl,rfl⟩|⟨rfl,rfl⟩;all_goals (
  go_wp2_with fail
  go_quiet (fail)
  go_wp2_with fail
  go_quiet (fail)
  go_wp2_with fail
  refine Calls.mono (L.out _ ?_) ?_
  ·first|exact p.out.drewN _|exact(p.out.drewN _).drewN _
  rintro e ab ⟨⟨E,rfl,u⟩,z,A⟩;obtain⟨R,P,M⟩:=zx3 u z A;clear u z A
  go_wp2_with fail
  go_ret
  exact⟨⟨E,rfl,R.out⟩,P.out,M.out⟩)
theorem jG:∀n,zt n
 |0=>λo g v d i q t rest w _ _ _ f=>by simp[Tp.fval]at f
 |n+1=>λo g v d i q t rest w E av T b=>by
  have ab:∀m,m < n+1->zt m:=λm _=>jG m;have F:=(kP d (n+1) q i _ b).2.1;have a2:=b;unfold Tp.fval at b;rw[if_neg (by omega)]at b;obtain⟨l,D⟩:∃l,d.drop i=l:=⟨_,rfl⟩;rw[D]at b
  match l,D,b with
  | [],D,b=>cases b
  |t0::u,D,b=>
   have P:i < d.length:=by
    rcases Nat.lt_or_ge i d.length with f|f
    ·exact f
    ·rw[List.drop_eq_nil_of_le f]at D;cases D
   have ad:=zW P;rw[D]at ad;injection ad with hd1 hd2;have C:d[i]? =W t0:=by rw[zE P,hd1]
   have ac:d.length - u.length=i+1:=by rw[hd2,zZ];omega
   have r:∀a:World,Far xO w a->yg a o g v d i/\Glob a/\g < a.heap.size:=λa c=>⟨E.far c (λe=>e) (λe=>e),av.far c (λ_ _ e=>e),zK (E.tok_lt C) c.size⟩;have G:∀(a:World) (j:Nat) (x:Tp.Tree) (e:Ending) (p:World),Far xO w a->Ak o g v d j a x e p->Ak o g v d j w x e p:=λa j x e p c ⟨⟨tv,s,A⟩,L,H⟩=>⟨⟨tv,s,A.base (λk ao=>Nat.le_trans c.size ao)⟩,L,(c.mono (λ_ _ e=>e.elim)).trans H⟩;simp only at b;by_cases S:t0.k=1\/t0.k=2
   ·rw[if_pos S]at b
    obtain⟨x,a0,A⟩:=zN.1 b;injection A with e1 e2;subst e1 e2;rw[ac];exact b7 o g v d i q t0 w 293 _ _ E C F (by rcases S with f|f<;>simp[f]) (λa c=>(Be o g v d i t0 x (q:Int) a (r a c).1 (r a c).2.1 C a0).mono (λe p f=>G a _ _ e p c f))
   rw[if_neg S]at b;by_cases L:t0.k=3
   ·rw[if_pos L]at b
    match u,hd2,b with
    | [],hd2,b=>cases b
    |y::z,hd2,b=>
     simp only at b;split at b
     ·cases b
     rename_i hy
     obtain⟨x,s,A⟩:=zN.1 b;obtain⟨N,M⟩:=x;injection A with e1 e2;subst e1 e2;have al:xY d (i+1) [3,4]=false:=by
      rw[aV,<-hd2];simp only[List.any_cons,List.any_nil,Bool.or_false];rw[Bool.eq_false_iff];intro f;simp at f
      exact hy f
     rw[hd2]at s;exact b7 o g v d i q t0 w 294 _ _ E C F (by simp[L]) (λa c=>(ow n (ab n (by omega)) o g v d i q t0 N M a (r a c).1 (r a c).2.1 T C al s).mono (λe p f=>G a _ _ e p c f))
   rw[if_neg L]at b;by_cases H:t0.k=4
   ·rw[if_pos H]at b
    injection b with b;injection b with e1 e2;subst e1 e2;rw[ac];exact b7 o g v d i q t0 w 295 _ _ E C F (by simp[H]) (λa c=>(tj o g v d i t0 (q:Int) a (r a c).1 C).mono (λe p f=>G a _ _ e p c f))
   rw[if_neg H]at b;by_cases X:t0.k=8
   ·rw[if_pos X]at b
    obtain⟨x,s,A⟩:=zN.1 b;obtain⟨N,M⟩:=x;injection A with e1 e2;subst e1 e2;rw[hd2]at s;exact b7 o g v d i q t0 w 296 _ _ E C F (by simp[X]) (λa c=>(qw n (λm a1=>ab m (by omega)) o g v d i q N M a (r a c).1 (r a c).2.1 T (r a c).2.2 P (by omega) s).mono (λe p f=>G a _ _ e p c f))
   rw[if_neg X]at b;by_cases R:t0.k=10
   ·rw[if_pos R]at b
    obtain⟨x,s,A⟩:=zN.1 b;obtain⟨N,M,an⟩:=x;injection A with e1 e2;subst e1 e2;rw[hd2]at s;exact b7 o g v d i q t0 w 297 _ _ E C F (by simp[R]) (λa c=>(qA n (λm a1=>ab m (by omega)) o g v d i q N M an a (r a c).1 (r a c).2.1 T (r a c).2.2 P (by omega) s).mono (λe p f=>G a _ _ e p c f))
   rw[if_neg R]at b;cases b
end
theorem dH{d:Func}{a e f:Tmp}(i:d.results=#[.cell a 78,.tmp e,.tmp f])(c:World)(q:Nat)(x:Array Value)(b:Array Value)(k:c.heap[q]? =W (J x 78 (0,0)))(m:x.size=7)(l:b.getD a undef=Z (W ⟨q,0,O⟩)):
 (results d b).run π c=.ok (.tuple #[γ x,b.getD e undef,b.getD f undef]) c:=by
 have g:b[a]?.getD undef=Z (W ⟨q,0,O⟩):=by simpa using l
 have j:=run_loadVar_row (P:=π) c q 78 78 x (0,0) _ k underlying78 rfl (by rw[m];exact gS);simp[results,i,asAddr,g,j,Sem.run_bind,Result.andThen]
theorem aG{w:World}{q:Nat}{o l j n k i m:Value}{T:TypeId}(r:w.heap[q]? =W (J #[o,l,j,n,k,i,m] T (0,0)))(e a f d g b c:Value):
 (((((((w.setCell ⟨q,0,O⟩ e).setCell ⟨q,1,O⟩ a).setCell ⟨q,2,O⟩ f).setCell ⟨q,3,O⟩ d).setCell ⟨q,4,O⟩ g).setCell ⟨q,5,O⟩ b).setCell ⟨q,6,O⟩ c).heap[q]? =W (J #[e,a,f,d,g,b,c] T (0,0))/\
 Far (·=q) w (((((((w.setCell ⟨q,0,O⟩ e).setCell ⟨q,1,O⟩ a).setCell ⟨q,2,O⟩ f).setCell ⟨q,3,O⟩ d).setCell ⟨q,4,O⟩ g).setCell ⟨q,5,O⟩ b).setCell ⟨q,6,O⟩ c):=
 ⟨ai (ai (ai (ai (ai (ai (ai r 0 _) 1 _) 2 _) 3 _) 4 _) 5 _) 6 _,
  (((((((ξ (·=q) w).setCell (p:=⟨q,0,O⟩) (λ_=>rfl) _).setCell (p:=⟨q,1,O⟩) (λ_=>rfl) _).setCell (p:=⟨q,2,O⟩) (λ_=>rfl) _).setCell (p:=⟨q,3,O⟩) (λ_=>rfl) _).setCell (p:=⟨q,4,O⟩) (λ_=>rfl) _).setCell (p:=⟨q,5,O⟩) (λ_=>rfl) _).setCell (p:=⟨q,6,O⟩) (λ_=>rfl) _⟩
theorem pn(v:Value)(g:Nat)(c:List Tp.Tk)(n:Nat)(t:Tp.Tree)(rest:List Tp.Tk)(w:World)(G:TkG w g v c)(b2:∀t∈c,zf t)(cm:c.length<=100000)(ab:Glob w)(a1:Tp.fval n 1 c=W (t,rest)):
 Calls π 238 #[v,V I 0] w λe w'=>(∃S:List Value,e=ρ (.tuple #[γ S.toArray,V I ((c.length - rest.length:Nat):Int),V I 0])/\xS w' (New w) t S)/\Below w.heap.size w w':=by
 have ct:∃a l ad,v=Y a l ad:=by obtain⟨a,_,ad,d,_⟩:=G;exact⟨_,_,_,d⟩
 obtain⟨j,m,p,rfl⟩:=ct;have dg:g < w.heap.size:=by
  obtain⟨a,o,ad,dp,dl,co⟩:=G;cases c with
  |nil=>cases n<;>simp[Tp.fval]at a1
  |cons x u=>exact(co (by simp[xZ])).2.1
 obtain⟨f,db⟩:∃f,w.heap.size+1=f:=⟨_,rfl⟩;have bm:((w.alloc (.cells #[V I 0,U ⟨#[]⟩,V I 0,V I 0,U ⟨#[]⟩,Y O 0 0,Y O 0 0] 78)).alloc (.cells #[Y j m p,V I 0] 431)).heap[f]? =W (.cells #[Y j m p,V I 0] 431 (0,0)):=by rw[<-db];exact ah _ _ _ (by simp)
 have P:Far xO w ((w.alloc (.cells #[V I 0,U ⟨#[]⟩,V I 0,V I 0,U ⟨#[]⟩,Y O 0 0,Y O 0 0] 78)).alloc (.cells #[Y j m p,V I 0] 431)):=((ξ _ w).alloc _).alloc _;have b5:((w.alloc (.cells #[V I 0,U ⟨#[]⟩,V I 0,V I 0,U ⟨#[]⟩,Y O 0 0,Y O 0 0] 78)).alloc (.cells #[Y j m p,V I 0] 431)).heap[w.heap.size]? =W (.cells #[V I 0,U ⟨#[]⟩,V I 0,V I 0,U ⟨#[]⟩,Y O 0 0,Y O 0 0] 78 (0,0)):=aa _ (af w _);have b6:yg ((w.alloc (.cells #[V I 0,U ⟨#[]⟩,V I 0,V I 0,U ⟨#[]⟩,Y O 0 0,Y O 0 0] 78)).alloc (.cells #[Y j m p,V I 0] 431)) f g (Y j m p) c 0:=⟨⟨_,bm⟩,G.far P (λe=>e),by omega,b2,cm,z_ _⟩;have bD:=jG n f g _ c 0 1 t rest _ b6 (ab.far P (λ_ _ e=>e)) (by have:=ab.1;omega) a1;obtain⟨b8,ac,bs⟩:=zx3 bD P b5;clear bD b6 bm P b5 G b2 ab a1
 go_enter func238,ntmps238
 go_wp2_with fail
 refine b8.out.mono ?_;rintro e A ⟨⟨S,rfl,ao⟩,bk,al⟩;obtain⟨k,L,N,s,C,D,E,M,H,F,y,rfl⟩:=ao.form;have dj:=pY (γ #[V I k,U L,V I N,V I s,U C,Y D E M,Y H F y]);have bx:=al.heap bs.out (by omega);have a3:Below w.heap.size w A:=(ac.out.to_below (η _) (λ_ _ e=>e)).trans (al.to_below ac.out.size (λi c4 e=>by omega));have bw:xS A (λk=>w.heap.size+2<=k) t _:=xS.mono (λk an _=>by have d:_<=k:=an;simpa using d) _ _ ao;have q:=(ξ xO A).alloc (.cells #[.nilIface] 436);have b9:=xS.far q (λ_ _ _ e=>e) _ _ bw;have bq:=bk.far q (λe=>e) (λe=>e);have bR:=q.heap bx (λe=>e);have ca:=a3.trans (q.to_below a3.size (λ_ _ e=>e.elim));obtain⟨b4,cb,bb,a9⟩:=zx4 b9 bq bR ca;clear ao bk al bx a3 bw q b9 bq bR ca b8 ac bs
 go_upto_region 6 with (fail)
 generalize hW4:A.alloc (.cells #[.nilIface] 436)=a0 at b4 cb bb a9 ⊢;clear hW4;obtain⟨T,R⟩:=cb.out.blk;obtain⟨J,bn⟩:∃J:Int,((c.length - rest.length:Nat):Int)=J:=⟨_,rfl⟩;rw[bn]at R;have av:=zF R 1 rfl;have di:=pQ (γ #[V I k,U L,V I N,V I s,U C,Y D E M,Y H F y]);have dn:=kR;refine wp_region_noPanic ?_;refine ar (λw'=>w'.cell? ⟨f,1,O⟩=W (V I J)) [8,9] (by kernel_rfl) ?_;refine aJ (by kernel_rfl) (λ_ _ _ _ d=>d) av 4 [0,2,3,4,5,6] _ _ (by kernel_rfl) ?_;iterate 6 (refine xT.take (v:=?_) rfl (by kernel_rfl) ?_ ?_;rotate_left;·(intro a2 ba;(try dsimp only at ba);go_simp;try with_reducible rfl);try go_frame)
 refine xT.done ?_;try dsimp only
 refine aq [1] ?_;refine aj rfl (λK r=>?_) xQ.nil
 go_simp
 refine(iL k N s L C D H E M F y _).mono ?_;rintro e a2 ⟨rfl,b0⟩;have z:Far xO a0 a2:=((ξ _ a0).drew).below b0;have a6:=z.at av (λe=>e);refine r.out _ _ (λ_=>a6) ?_;clear r K b0;try go_frame
 have b:=z.heap bb.out (λe=>e);have cl:=zF b 0 rfl;have c5:=ag b 0;have cT:=zF b 1 rfl;have cS:=ag b 1;have cc:=zF b 2 rfl;have df:=ag b 2;have cv:=zF b 3 rfl;have ch:=ag b 3;have c1:=zF b 4 rfl;have dc:=ag b 4;have c3:=zF b 5 rfl;have c9:=ag b 5;have ck:=zF b 6 rfl;have da:=ag b 6;obtain⟨b3,X⟩:=aG b (V I k) (U L) (V I N) (V I s) (U C) (Y D E M) (Y H F y);obtain⟨dm,c2⟩:=zx2 b z;clear b z R av;refine aq [7] ?_;refine aj rfl (λK r=>?_) xQ.nil
 go_simp
 refine r.out _ _ (λ_=>X.at a6 (by show ¬f=w.heap.size;omega)) ?_;clear r K;try go_frame
 refine ee (by kernel_rfl) (λ_ _ _ _ d=>d) 0 [8,9] _ _ (by kernel_rfl) ?_;iterate 2 (refine xT.take (v:=?_) rfl (by kernel_rfl) ?_ ?_;rotate_left;·(intro a2 ba;(try dsimp only at ba);go_simp;try with_reducible rfl);try go_frame)
 refine xT.done ?_;try dsimp only
 refine aP (by kernel_rfl) (NoPanic.normal ?_) _;have a4:Far (·=w.heap.size) a0 _:=(c2.out.mono (λ_ _ e=>e.elim)).trans X;have b1:=xS.base (w0:=w) (xS.far a4 (λk (an:w.heap.size+2<=k) _ e=>by omega) _ _ b4.out) (λk an=>by omega);have be:=a9.out.trans (a4.to_below a9.out.size (λi c4 e=>by omega));obtain⟨c0,c6,cf⟩:=zx3 b1 be b3;clear b1 be b3 X a4 cl cT cc cv c1 c3 ck c5 cS df ch dc c9 da a6
 go_wp2_with fail
 exact bodyPost_ret (dH results238 _ _ _ _ cf.out rfl rfl) rfl ⟨⟨_,by rw[bn];rfl,c0.out⟩,c6.out⟩
theorem pU(a c:Option Addr)(f d:Nat)(w:World):Calls π 271 #[Y a 0 f,Y c 0 d] w λe w'=>e=ρ (β true)/\w'=w:=by
 go_enter func271,ntmps271
 go_wp2_with fail
 go_loopw [13] (λb wr=>b=V I 0/\wr=w) (λ_ _=>0)
 case atStart=>exact⟨rfl,rfl⟩
 case round=>
  obtain⟨rfl,rfl⟩:=hrel
  go_wp2_with fail
  go_ret
  exact⟨rfl,rfl⟩
theorem sT(a b:Option Addr)(c d:Nat)(w:World):Calls π 239 #[Y a 0 c,Y b 0 d] w λe w'=>e=ρ (β true)/\w'=w:=by
 go_enter func239,ntmps239
 go_wp2_with fail
 refine(pU a b c d _).mono ?_;rintro e f ⟨rfl,rfl⟩
 go_wp2_with fail
 go_ret
 exact⟨rfl,rfl⟩
theorem aO{d:Func}{a e:Tmp}(g:d.results=#[.cell a 78,.tmp e])(c:World)(q:Nat)(x:Array Value)(b:Array Value)(j:c.heap[q]? =W (J x 78 (0,0)))(l:x.size=7)(k:b.getD a undef=Z (W ⟨q,0,O⟩)):
 (results d b).run π c=.ok (.tuple #[γ x,b.getD e undef]) c:=by
 have f:b[a]?.getD undef=Z (W ⟨q,0,O⟩):=by simpa using k
 have i:=run_loadVar_row (P:=π) c q 78 78 x (0,0) _ j underlying78 rfl (by rw[l];exact gS);simp[results,g,asAddr,f,i,Sem.run_bind,Result.andThen]
theorem pH(v:Value)(g:Nat)(c:List Tp.Tk)(n:Nat)(t:Tp.Tree)(w:World)(C:TkG w g v c)(X:∀t∈c,zf t)(av:c.length<=100000)(T:Glob w)(R:Tp.fval n 1 c=W (t,[])):
 Calls π 205 #[v] w λe w'=>(∃D:List Value,e=ρ (.tuple #[γ D.toArray,V I 0])/\xS w' (New w) t D)/\Below w.heap.size w w':=by
 have a1:∃a L,v=Y a c.length L/\c.length<=L:=by obtain⟨a,_,L,H,r,_⟩:=C;exact⟨_,_,H,r⟩
 obtain⟨bq,a0,rfl,b0⟩:=a1;have x:Far xO w (w.alloc (J #[V I 0,U ⟨#[]⟩,V I 0,V I 0,U ⟨#[]⟩,Y O 0 0,Y O 0 0] 78)):=(ξ _ w).alloc _;have M:=af w (J #[V I 0,U ⟨#[]⟩,V I 0,V I 0,U ⟨#[]⟩,Y O 0 0,Y O 0 0] 78);have r:=pn _ g c n t [] _ (C.far x (λe=>e)) X av (T.far x (λ_ _ e=>e)) R;simp only[List.length_nil,Nat.sub_zero]at r;obtain⟨N,ad,G⟩:=zx3 r x M;have a5:(0:Int)<=(c.length:Int):=by omega
 have b1:(c.length:Int)<=(a0:Int):=by omega
 have a9:(c.length:Int)<=(c.length:Int):=by omega
 clear r x M C X T R
 go_enter func205,ntmps205
 go_wp2_with fail
 refine N.out.mono ?_;rintro e A ⟨⟨D,rfl,F⟩,y⟩;obtain⟨k,o,m,d,j,s,p,l,u,q,f,rfl⟩:=F.form;have b:=aa (J #[V I k,U o,V I m,V I d,U j,Y s p l,Y u q f] 78) ((y.block _ (lt_of_heap G.out)).trans G.out);have z:=(ξ xO A).alloc (J #[V I k,U o,V I m,V I d,U j,Y s p l,Y u q f] 78);have S:xS (A.alloc (J #[V I k,U o,V I m,V I d,U j,Y s p l,Y u q f] 78)) (λk=>w.heap.size+1<=k) t _:=xS.mono (λk E _=>by have H:_<=k:=E;simpa using H) _ _ (xS.far z (λ_ _ _ e=>e) _ _ F);have ac:Below w.heap.size w (A.alloc (J #[V I k,U o,V I m,V I d,U j,Y s p l,Y u q f] 78)):=((ad.out.to_below (η _) (λ_ _ e=>e)).trans (y.mono (by simp))).trans (z.to_below (by have:=y.size;simp at this;omega) (λ_ _ e=>e.elim));have bm:=zF b 0 rfl;have bD:=ag b 0;have bb:=zF b 1 rfl;have a6:=ag b 1;have a3:=zF b 2 rfl;have b2:=ag b 2;have a4:=zF b 3 rfl;have ba:=ag b 3;have bR:=zF b 4 rfl;have bw:=ag b 4;have bs:=zF b 5 rfl;have bk:=ag b 5;have be:=zF b 6 rfl;have bn:=ag b 6;obtain⟨al,an,ab⟩:=zx3 b S ac;clear F y b z S ac N ad G
 go_wp2_with fail
 all_goals (
  refine(sT _ _ _ _ _).mono ?_;rintro e a2 ⟨rfl,rfl⟩
  go_wp2_with fail
  obtain⟨ao,P⟩:=aG al.out (V I k) (U o) (V I m) (V I d) (U j) (Y s p l) (Y u q f);exact bodyPost_ret (aO results205 _ _ _ _ ao rfl rfl) rfl ⟨⟨_,rfl,xS.base (xS.far P (λk (E:w.heap.size+1<=k) _ e=>by omega) _ _ an.out) (λk E=>by omega)⟩,ab.out.trans (P.to_below ab.out.size (λi bx e=>by omega))⟩)
theorem gq:∀(l:List Tp.Tree) (t:Tp.Tree),Tp.depthL (l++[t])=max (Tp.depthL l) (Tp.depth t)
 | [],t=>by simp[Tp.depthL]
 |x::r,t=>by
  rw[List.cons_append];unfold Tp.depthL;rw[gq r t,Nat.max_assoc]
theorem kZ:∀(l:List Tp.Tree) (j:Nat),Tp.depthL (l.take j)<=Tp.depthL l
 | [],j=>by simp
 |x::r,0=>by simp[Tp.depthL]
 |x::r,j+1=>by
  rw[List.take_succ_cons];unfold Tp.depthL;have:=kZ r j;omega
theorem gp:∀(l:List Tp.Tree) (j:Nat) (t:Tp.Tree),l[j]? =W t->Tp.depth t<=Tp.depthL l
 | [],j,t,h=>by simp at h
 |x::r,0,t,h=>by
  simp at h
  subst h;unfold Tp.depthL;omega
 |x::r,j+1,t,h=>by
  have:=gp r j t (by simpa using h);unfold Tp.depthL;omega
theorem Row.at{w:World}{k:NS}{n:Nat}{v:Value}{d:List Value}(p:Row w k n v d):∃a g o cap,v=Y a n cap/\n<=maxLen/\(d≠[]->a=W ⟨g,o,O⟩/\k g/\g < w.heap.size)/\∀(i:Nat) (x:Value),d[i]? =W x->w.cell? ⟨g,o+i,O⟩=W x:=by
 obtain⟨a,g,o,cap,l,j,m,c⟩:=p;exact⟨a,g,o,cap,l,Nat.le_trans j.1 j.2,λb=>⟨(c b).1,m b,(c b).2.1⟩,λi x f=>(c (λe=>by rw[e]at f;simp at f)).2.2 i x f⟩
theorem kY:∀(n:Nat) (t:Tp.Tree) (q:List Value) (u:NS) (w:World),Tp.depth t<=n->n<=1000->xS w u t q->Calls π 206 #[γ q.toArray] w λe w'=>e=ρ (V I (Tp.depth t:Int))/\Below w.heap.size w w'
 |0,⟨k,name,x,keys,kids⟩,q,u,w,hd,_,_=>by unfold Tp.depth at hd;omega
 |n+1,⟨k,name,x,keys,kids⟩,q,u,w,hd,hn,d=>by
  have hI:=λt q W f (d:xS W u t q)=>kY n t q u W f (by omega) d;unfold Tp.depth at hd ⊢;unfold xS at d;obtain⟨kv,dc,a6,rfl,a3,X,bk⟩:=d;obtain⟨cb,cc,c1,b6⟩:∃a n p,kv=Y a n p:=by obtain⟨a,_,_,p,f,_⟩:=a3;exact⟨_,_,_,f⟩
  obtain⟨bm,g,o,b1,rfl,a4,z,a1⟩:=bk.at
  subst b6;obtain⟨ct,bx⟩:∃L:ByteArray,xR name=U L:=⟨_,rfl⟩;obtain⟨ca,be⟩:∃L:ByteArray,xR x.s=U L:=⟨_,rfl⟩;rw[bx,be];have c2:=xU.len _ _ X;have c0:kids.length<=9223372036854775807:=a4;have ba:∀j b,kids[j]? =some b->∃v:List Value,xS w u b v/\bm=some ⟨g,o,O⟩/\g < w.heap.size/\∀i,i < 7->∀s,v[i]? =some s->w.cell? ⟨g,o+j * 7+i,O⟩=some s:=λj b f=>by
   obtain⟨v,bs,a5⟩:=xU.at kids a6 j b X f;have av:a6≠[]:=λe=>by
    have bs:=(zM.1 f).1;have a5:kids.length * 7=0:=by rw[<-c2,e];rfl
    omega
   exact⟨v,bs,(z av).1,(z av).2.2,λi cm s cl=>by rw[Nat.add_assoc];exact a1 _ _ ((a5 i cm).trans cl)⟩
  obtain⟨cT,ch⟩:=zx2 ba hI;obtain⟨c,R⟩:∃c,kids.length=c:=⟨_,rfl⟩;have db:Tp.depthL kids<=n:=by omega
  rw[R]at c0 ⊢;have bq:=(ζ w.heap.size w).alloc (η _) (J #[V I k,U ct,V I x.k,V I x.n,U ca,Y cb cc c1,Y bm c b1] 78);have b2:=zD bq;clear ba hI X bk a3 a1 z bx be bq a4
  go_enter func206,ntmps206
  go_wp2_with fail
  go_loopw [3,9] (λco N wr=>∃j:Nat,j<=c/\co=V I (Tp.depthL (kids.take j):Int)/\N=V I (j:Int)/\Below w.heap.size w wr) (λ_ N _=>c - (Lib.intOf N).toNat)
  case atStart=>exact⟨0,z_ _,by rw[List.take_zero];rfl,rfl,b2.out⟩
  case round=>
   obtain⟨j,c9,rfl,rfl,r⟩:=hrel;by_cases b4:j < c
   ·obtain⟨b,C⟩:∃b,kids[j]? =some b:=⟨_,zE (by rw[R];exact b4)⟩
    obtain⟨v,d,rfl,b8,l⟩:=cT.out j b C;have ck:=gp kids j b C;have y:Tp.depthL (kids.take (j+1))=max (Tp.depthL (kids.take j)) (Tp.depth b):=by rw[zG,C];exact gq _ _
    have cS:=kZ kids j;obtain⟨S,G,al,an,ad,ab,F,T,E,M,A,rfl⟩:=d.form;have m:∀i s,w.cell? ⟨g,o+j * 7+i,O⟩=some s->wr.cell? ⟨g,o+j * 7+i,O⟩=some s:=λi s f=>(World.cell?_of_block (w:=w) (r.block g b8)).trans f;have cv:wr.cell? ⟨g,o+j * 7,O⟩=some (V I S):=m 0 _ (l 0 (by omega) _ rfl);have b9:wr.cell? ⟨g,o+j * 7+1,O⟩=some (U G):=m 1 _ (l 1 (by omega) _ rfl);have b5:wr.cell? ⟨g,o+j * 7+2,O⟩=some (V I al):=m 2 _ (l 2 (by omega) _ rfl);have c3:wr.cell? ⟨g,o+j * 7+3,O⟩=some (V I an):=m 3 _ (l 3 (by omega) _ rfl);have c4:wr.cell? ⟨g,o+j * 7+4,O⟩=some (U ad):=m 4 _ (l 4 (by omega) _ rfl);have c5:wr.cell? ⟨g,o+j * 7+5,O⟩=some (Y ab F T):=m 5 _ (l 5 (by omega) _ rfl);have cf:wr.cell? ⟨g,o+j * 7+6,O⟩=some (Y E M A):=m 6 _ (l 6 (by omega) _ rfl);have bw:=xS.far (Far.of_below r xO) (λ_ _ _ e=>e) _ _ d;have H:=ch.out b _ _ (by omega) (xS.far ((ξ xO wr).alloc (J #[V I S,U G,V I al,V I an,U ad,Y ab F T,Y E M A] 78)) (λ_ _ _ e=>e) _ _ bw);have c6:(0:Int)<=(j:Int):=by omega
    have da:(j:Int) < (c:Int):=by omega
    have bn:Below w.heap.size w (wr.alloc (J #[V I S,U G,V I al,V I an,U ad,Y ab F T,Y E M A] 78)):=r.alloc r.size _;obtain⟨a2,a9⟩:∃D,Tp.depthL (kids.take j)=D:=⟨_,rfl⟩;obtain⟨bb,a0⟩:∃D,Tp.depth b=D:=⟨_,rfl⟩;rw[a0]at H y ck;rw[a9]at y cS ⊢;obtain⟨bD,P,b3⟩:=zx3 H bn y;clear H bw m l d r bn y a9 a0
    go_wp2_with fail
    refine bD.out.mono ?_;rintro e df ⟨rfl,b0⟩;have ao:=P.out.trans (b0.mono P.out.size);have ac:=zD ao;clear b0 ao bD P cv b9 b5 c3 c4 c5 cf
    go_wp2_with fail
    go_roundw
    case rel=>exact⟨j+1,by omega,by rw[b3.out,show ((max a2 bb:Nat):Int)=max (a2:Int) (bb:Int)by omega],by go_num,ac.out⟩
    case measure=>simp[Lib.intOf];omega
   ·obtain rfl:j=c:=by omega
    have bR:kids.take kids.length=kids:=List.take_length;rw[<-R,bR];have ac:=zD r;clear r bR
    go_wp2_with fail
    go_ret
    exact⟨by simp,ac.out⟩
def x9(w:World)(a:NS):List Tp.En->List Value->Prop
 | [],cs=>cs=[]
 |e::r,cs=>∃v b,Row w a e.l.length v (xZ e.l)/\cs=V I e.no::V I e.col::v::b/\x9 w a r b
theorem x9.far{D b:NS}{w w':World}(c:Far D w w')(g:∀k,b k->k < w.heap.size->¬D k):∀(f:List Tp.En) (a:List Value),x9 w b f a->x9 w' b f a
 | [],a,h=>by unfold x9 at h ⊢;exact h
 |e::r,a,h=>by
  unfold x9 at h ⊢;obtain⟨v,d,j,i,l⟩:=h;exact⟨v,d,j.far c g,i,x9.far c g r d l⟩
structure yp(w:World)(r ge oe:Nat)(TG:NS)(es:List Tp.En):Prop where
 blk:∃T at0 cap,w.heap[r]? =W (J #[Y at0 es.length cap] T (0,0))/\es.length<=cap/\cap<=maxLen/\(es≠[]->at0=W ⟨ge,oe,O⟩)
 row:∃cs cur,w.heap[ge]? =W (J cur 220 (0,0))/\x9 w TG es cs/\∀i x,cs[i]? =W x->cur[oe+i]? =W x
 ne:ge≠r
 tgr:¬TG r
 tge:¬TG ge
 tgl:∀k,TG k->k < w.heap.size
theorem yp.far{D c:NS}{w w':World}{b d e:Nat}{f:List Tp.En}(z:yp w b d e c f)(a:Far D w w')(t:¬D b)(g:¬D d)(j:∀k,c k->k < w.heap.size->¬D k):yp w' b d e c f:=by
 obtain⟨⟨T,v,cap,o,i⟩,⟨n,r,u,m,p⟩,x,q,s,y⟩:=z;exact⟨⟨T,v,cap,a.heap o t,i⟩,⟨n,r,a.heap u g,x9.far a j _ _ m,p⟩,x,q,s,λk l=>zK (y k l) a.size⟩
theorem yp.lt{c:NS}{w:World}{a b e:Nat}{f:List Tp.En}(i:yp w a b e c f):a < w.heap.size/\b < w.heap.size:=by
 obtain⟨⟨T,q,cap,d,j⟩,⟨l,o,g,k,m⟩,r,n,p,s⟩:=i;exact⟨lt_of_heap d,lt_of_heap g⟩
theorem g9{d:Func}{a e:Tmp}(g:d.results=#[.cell a 220,.tmp e])(c:World)(q:Nat)(x:Array Value)(b:Array Value)(j:c.heap[q]? =W (J x 220 (0,0)))(l:x.size=3)(k:b.getD a undef=Z (W ⟨q,0,O⟩)):
 (results d b).run π c=.ok (.tuple #[γ x,b.getD e undef]) c:=by
 have f:b[a]?.getD undef=Z (W ⟨q,0,O⟩):=by simpa using k
 have i:=run_loadVar_row (P:=π) c q 220 220 x (0,0) _ j underlying220 rfl (by rw[l];kernel_rfl);simp[results,g,asAddr,f,i,Sem.run_bind,Result.andThen]
theorem je(a j i:Nat)(g:NS)(w:World)(d:yp w a j i g []):Calls π 106 #[Z (W ⟨a,0,O⟩)] w λe w'=>e=ρ (.tuple #[γ #[V I 0,V I 0,Y O 0 0],β false])/\Below w.heap.size w w':=by
 obtain⟨⟨T,c,cap,b,f⟩,_⟩:=d;have k:=aK (o:=J #[V I 0,V I 0,Y O 0 0] 220) (lt_of_heap b) (show w.cell? ⟨a,0,O⟩=W (Y c 0 cap)from ae b 0);clear b f
 go_enter func106,ntmps106
 go_wp2_with fail
 exact bodyPost_ret (g9 results106 _ w.heap.size #[V I 0,V I 0,Y O 0 0] _ (af w _) rfl rfl) rfl ⟨rfl,(ζ _ _).alloc (η _) _⟩
theorem cM(j f b:Nat)(s:NS)(e:Tp.En)(c:List Tp.En)(w:World)(m:yp w j f b s (e::c)):∃v,Row w s e.l.length v (xZ e.l)/\Calls π 106 #[Z (W ⟨j,0,O⟩)] w λx w'=>x=ρ (.tuple #[γ #[V I e.no,V I e.col,v],β true])/\Below w.heap.size w w':=by
 obtain⟨⟨T,ac,cap,l,M,N,t⟩,⟨P,S,d,u,g⟩,ad,R,X,al⟩:=m;obtain rfl:=t (by simp);unfold x9 at u;obtain⟨v,ab,p,rfl,_⟩:=u;refine⟨v,p,?_⟩;obtain⟨A,C,E,rfl⟩:∃a n G,v=Y a n G:=by obtain⟨a,_,_,G,m,_⟩:=p;exact⟨_,_,_,m⟩
 have q:w.cell? ⟨j,0,O⟩=W (Y (W ⟨f,b,O⟩) (c.length+1) cap):=ae l 0;have z:w.cell? ⟨f,b,O⟩=W (V I e.no):=(ae d b).trans (g 0 _ rfl);have y:w.cell? ⟨f,b+1,O⟩=W (V I e.col):=(ae d (b+1)).trans (g 1 _ rfl);have r:w.cell? ⟨f,b+2,O⟩=W (Y A C E):=(ae d (b+2)).trans (g 2 _ rfl);have i:=lt_of_heap d
 replace q:=aK (o:=J #[V I 0,V I 0,Y O 0 0] 220) (lt_of_heap l) q
 replace z:=aK (o:=J #[V I 0,V I 0,Y O 0 0] 220) i z
 replace y:=aK (o:=J #[V I 0,V I 0,Y O 0 0] 220) i y
 replace r:=aK (o:=J #[V I 0,V I 0,Y O 0 0] 220) i r
 have L:∀k,(binOp .eql 3 (V I (((c.length+1:Nat)):Int)) (V I 0)).run π k=.ok (β false) k:=λk=>by simp[go_sem];omega
 have H:(0:Int) < ((c.length+1:Nat):Int):=by omega
 obtain⟨D,F⟩:∃D,c.length+1=D:=⟨_,rfl⟩;rw[F]at q L H;clear l M N t d g p F
 go_enter func106,ntmps106
 go_wp2_with fail
 exact bodyPost_ret (g9 results106 _ w.heap.size #[V I e.no,V I e.col,Y A C E] _ (af w _) rfl rfl) rfl ⟨rfl,(ζ _ _).alloc (η _) _⟩
theorem ni(a j g:Nat)(n:NS)(e:Tp.En)(b:List Tp.En)(w:World)(S:yp w a j g n (e::b)):Calls π 156 #[Z (W ⟨a,0,O⟩)] w λx w'=>(∃v,x=ρ v)/\yp w' a j (g+3) n b/\Far (·=a) w w':=by
 obtain⟨⟨T,av,cap,c,l,ao,E⟩,⟨al,G,u,r,s⟩,y,t,H,N⟩:=S;obtain rfl:=E (by simp);unfold x9 at r;obtain⟨v,L,X,rfl,z⟩:=r;have an:=zF c 0 rfl;have ac:=ag c 0;simp only[zO]at l;have ab:(1:Int)<=((b.length+1:Nat):Int):=by omega
 have ad:((b.length+1:Nat):Int)<=(cap:Int):=by omega
 have q:∀f d,d<=maxLen->b.length<=d->(b≠[]->f=W ⟨j,g+3,O⟩)->yp (w.setCell ⟨a,0,O⟩ (Y f b.length d)) a j (g+3) n b/\Far (·=a) w (w.setCell ⟨a,0,O⟩ (Y f b.length d)):=λf d P F R=>by
  have m:Far (·=a) w (w.setCell ⟨a,0,O⟩ (Y f b.length d)):=Far.setCell (D:=(·=a)) (ξ _ _) (p:=⟨a,0,O⟩) (λ_=>rfl) _;exact⟨⟨⟨T,f,d,ai c 0 _,F,P,R⟩,⟨L,G,m.heap u y,x9.far m (λk o _ e=>t (e ▸ o)) _ _ z,λi x M=>by rw[Nat.add_assoc,Nat.add_comm 3 i];exact s (i+3) x M⟩,y,t,H,λk o=>zK (N k o) m.size⟩,m⟩
 have A:=zD q;clear c u s X z q
 go_enter func156,ntmps156
 go_wp2_with fail
 all_goals first
  | (obtain⟨c,l⟩:=A.out (W ⟨j,g+3,O⟩) (cap - 1) (by omega) (by omega) (fun _=>rfl)
     go_end0
     exact⟨⟨_,rfl⟩,c,l⟩)
  | (obtain⟨c,l⟩:=A.out (W ⟨j,g,O⟩) 0 (by omega) (by omega) (fun C=>absurd (List.eq_nil_of_length_eq_zero (by omega)) C)
     go_end0
     exact⟨⟨_,rfl⟩,c,l⟩)
def xP(l:List Nat):List Value:=l.map λi:Nat=>V I (i:Int)
def xX(w:World)(a:NS):List Tp.Nd->List Value->Prop
 | [],cs=>cs=[]
 |x::r,cs=>∃kv c b,cs=[V I x.k,V I x.x.k,V I x.x.n,xR x.x.s,kv,c]++b/\Row w a x.keys.length kv (xV x.keys)/\Row w a x.kids.length c (xP x.kids)/\xX w a r b
theorem xX.far{D c:NS}{w w':World}(b:Far D w w')(d:∀k,c k->k < w.heap.size->¬D k):∀(g:List Tp.Nd) (a:List Value),xX w c g a->xX w' c g a
 | [],a,h=>by unfold xX at h ⊢;exact h
 |x::r,a,h=>by
  unfold xX at h ⊢;obtain⟨kv,l,e,j,f,m,i⟩:=h;exact⟨kv,l,e,j,f.far b d,m.far b d,xX.far b d r e i⟩
theorem xX.mono{c G':NS}{w:World}(b:∀k,c k->k < w.heap.size->G' k):∀(g:List Tp.Nd) (a:List Value),xX w c g a->xX w G' g a
 | [],a,h=>by unfold xX at h ⊢;exact h
 |x::r,a,h=>by
  unfold xX at h ⊢;obtain⟨kv,j,d,f,e,l,i⟩:=h;exact⟨kv,j,d,f,e.mono b,l.mono b,xX.mono b r d i⟩
theorem xX.snoc{w:World}{b:NS}{x:Tp.Nd}{kv d:Value}(f:Row w b x.keys.length kv (xV x.keys))(e:Row w b x.kids.length d (xP x.kids)):∀(g:List Tp.Nd) (c:List Value),xX w b g c->xX w b (g++[x]) (c++[V I x.k,V I x.x.k,V I x.x.n,xR x.x.s,kv,d])
 | [],c,hk=>by
  unfold xX at hk;subst hk;rw[List.nil_append,List.nil_append];unfold xX;exact⟨kv,d,[],rfl,f,e,by unfold xX;rfl⟩
 |y::r,c,hk=>by
  unfold xX at hk;obtain⟨a,k,i,rfl,m,j,l⟩:=hk;rw[List.cons_append];unfold xX;exact⟨a,k,_,List.append_assoc _ _ _,m,j,xX.snoc f e r i l⟩
theorem xX.at{w:World}{f:NS}:∀(g:List Tp.Nd) (b:List Value) (i:Nat) (x:Tp.Nd),xX w f g b->g[i]? =W x->∃kv d,(∀j c,[Value.int I x.k,V I x.x.k,V I x.x.n,xR x.x.s,kv,d][j]? =W c->b[i * 6+j]? =W c)/\Row w f x.keys.length kv (xV x.keys)/\Row w f x.kids.length d (xP x.kids)
 | [],b,i,x,hk,h=>by simp at h
 |y::r,b,0,x,hk,h=>by
  unfold xX at hk;obtain⟨a,k,n,rfl,o,l,m⟩:=hk;simp at h
  subst h;refine⟨a,k,λj c e=>?_,o,l⟩;have q:=(zM.1 e).1;rw[Nat.zero_mul,Nat.zero_add,List.getElem?_append_left q];exact e
 |y::r,b,i+1,x,hk,h=>by
  unfold xX at hk;obtain⟨a,k,n,rfl,o,l,m⟩:=hk;obtain⟨kv,d,s,p⟩:=xX.at r n i x m (by simpa using h);refine⟨kv,d,λj c e=>?_,p⟩;rw[zV (by simp;omega),show (i+1) * 6+j - List.length [Value.int I y.k,V I y.x.k,V I y.x.n,xR y.x.s,a,k]=i * 6+j by simp;omega];exact s j c e
def yc(w:World)(a:NS)(g:List Tp.Nd)(v:Value):Prop:=∃b,Row w a g.length v b/\xX w a g b
theorem yc.far{D a:NS}{w w':World}{g:List Tp.Nd}{v:Value}(d:yc w a g v)(b:Far D w w')(c:∀k,a k->k < w.heap.size->¬D k):yc w' a g v:=by
 obtain⟨f,i,e⟩:=d;exact⟨f,i.far b c,xX.far b c _ _ e⟩
theorem yc.mono{a G':NS}{w:World}{g:List Tp.Nd}{v:Value}(c:yc w a g v)(b:∀k,a k->k < w.heap.size->G' k):yc w G' g v:=by
 obtain⟨e,f,d⟩:=c;exact⟨e,f.mono b,xX.mono b _ _ d⟩
theorem yc.below{a:NS}{w w':World}{g:List Tp.Nd}{v:Value}(b:yc w a g v)(c:Below w.heap.size w w'):yc w' a g v:=b.far (Far.of_below c xO) (λ_ _ _ e=>e)
theorem Row.below{a:NS}{w w':World}{n:Nat}{v:Value}{b:List Value}(c:Row w a n v b)(d:Below w.heap.size w w'):Row w' a n v b:=c.far (Far.of_below d xO) (λ_ _ _ e=>e)
theorem Row.form{e:NS}{w:World}{n:Nat}{v:Value}{f:List Value}(b:Row w e n v f):∃a d,v=Y a n d/\n<=maxLen:=by obtain⟨a,_,_,d,b,c,_⟩:=b;exact⟨_,_,b,Nat.le_trans c.1 c.2⟩
theorem yc.form{c:NS}{w:World}{g:List Tp.Nd}{v:Value}(b:yc w c g v):∃a d,v=Y a g.length d/\g.length<=maxLen:=by obtain⟨_,b,_⟩:=b;exact b.form
structure yN(w:World)(G:NS)(v:Value)(n i:Nat)(x:Tp.Nd)(kv dv:Value):Prop where
 cell:∃gb o cap,v=Y (W ⟨gb,o,O⟩) n cap/\gb < w.heap.size/\G gb/\∀j u,[Value.int I x.k,V I x.x.k,V I x.x.n,xR x.x.s,kv,dv][j]? =W u->w.cell? ⟨gb,o+i * 6+j,O⟩=W u
 lt:i < n
 le:n<=maxLen
 key:Row w G x.keys.length kv (xV x.keys)
 kid:Row w G x.kids.length dv (xP x.kids)
theorem yc.at{w:World}{d:NS}{g:List Tp.Nd}{v:Value}{i:Nat}{x:Tp.Nd}(C:yc w d g v)(k:g[i]? =W x):∃kv a,yN w d v g.length i x kv a:=by
 obtain⟨f,⟨D,m,o,cap,q,c,u,p⟩,r⟩:=C;obtain⟨kv,a,l,s,t⟩:=xX.at g f i x r k;have b:f≠[]:=λe=>by have:=l 0 _ rfl;rw[e]at this;simp at this
 obtain⟨rfl,z,n⟩:=p b;exact⟨kv,a,⟨m,o,cap,q,z,u b,λj y A=>by rw[Nat.add_assoc];exact n _ _ (l j y A)⟩,(zM.1 k).1,Nat.le_trans c.1 c.2,s,t⟩
theorem yN.far{D c:NS}{w w':World}{v:Value}{n i:Nat}{x:Tp.Nd}{kv e:Value}(y:yN w c v n i x kv e)(a:Far D w w')(b:∀k,c k->k < w.heap.size->¬D k):yN w' c v n i x kv e:=by
 obtain⟨⟨g,o,cap,m,d,f,l⟩,p,t,q,r⟩:=y;exact⟨⟨g,o,cap,m,zK d a.size,f,λj s u=>a.at (l j s u) (b _ f d)⟩,p,t,q.far a b,r.far a b⟩
theorem yN.below{a:NS}{w w':World}{v:Value}{n i:Nat}{x:Tp.Nd}{kv b:Value}(c:yN w a v n i x kv b)(d:Below w.heap.size w w'):yN w' a v n i x kv b:=c.far (Far.of_below d xO) (λ_ _ _ e=>e)
theorem yN.cells{w:World}{d:NS}{v:Value}{n i:Nat}{x:Tp.Nd}{kv c:Value}(e:yN w d v n i x kv c):∃a o cap,v=Y (W ⟨a,o,O⟩) n cap/\a < w.heap.size/\w.cell? ⟨a,o+i * 6,O⟩=W (V I x.k)/\w.cell? ⟨a,o+i * 6+1,O⟩=W (V I x.x.k)/\w.cell? ⟨a,o+i * 6+2,O⟩=W (V I x.x.n)/\w.cell? ⟨a,o+i * 6+3,O⟩=W (xR x.x.s)/\w.cell? ⟨a,o+i * 6+4,O⟩=W kv/\w.cell? ⟨a,o+i * 6+5,O⟩=W c:=by
 obtain⟨⟨a,o,cap,g,f,j,b⟩,_⟩:=e;exact⟨a,o,cap,g,f,b 0 _ rfl,b 1 _ rfl,b 2 _ rfl,b 3 _ rfl,b 4 _ rfl,b 5 _ rfl⟩
theorem gX:∀(a:List Tp.Sc) (i:Nat) (x:Tp.Sc),a[i]? =W x->(xV a)[i * 3]? =W (V I x.k)/\(xV a)[i * 3+1]? =W (V I x.n)/\(xV a)[i * 3+2]? =W (xR x.s)
 | [],i,x,h=>by simp at h
 |y::r,0,x,h=>by simp at h;subst h;exact⟨rfl,rfl,rfl⟩
 |y::r,i+1,x,h=>by
  have b:=gX r i x (by simpa using h);have e:xV (y::r)=[V I y.k,V I y.n,xR y.s]++xV r:=rfl;have c:(i+1) * 3=i * 3+3:=by omega
  refine⟨?_,?_,?_⟩
  ·rw[e,zV (by simp;omega),<-b.1];congr 1;simp;omega
  ·rw[e,zV (by simp;omega),<-b.2.1];congr 1;simp;omega
  ·rw[e,zV (by simp;omega),<-b.2.2];congr 1;simp;omega
theorem fq:∀a:List Tp.Sc,(xV a).length=a.length * 3
 | []=>rfl
 |y::r=>by
  have e:xV (y::r)=[V I y.k,V I y.n,xR y.s]++xV r:=rfl;rw[e,zP,fq r,zO,zO,zO,List.length_nil,zO];omega
theorem Row.sc{f:NS}{w:World}{n i:Nat}{v:Value}{a:List Tp.Sc}{x:Tp.Sc}(r:Row w f n v (xV a))(p:a[i]? =W x):∃g o cap,v=Y (W ⟨g,o,O⟩) n cap/\f g/\g < w.heap.size/\w.cell? ⟨g,o+i * 3,O⟩=W (V I x.k)/\w.cell? ⟨g,o+i * 3+1,O⟩=W (V I x.n)/\w.cell? ⟨g,o+i * 3+2,O⟩=W (xR x.s):=by
 obtain⟨u,g,o,cap,k,t,m,j⟩:=r;obtain⟨c,s,l⟩:=gX a i x p;have d:xV a≠[]:=λe=>by rw[e]at c;simp at c
 obtain⟨rfl,q,b⟩:=j d;exact⟨g,o,cap,k,m d,q,b _ _ c,b _ _ s,b _ _ l⟩
theorem Row.nat{d:NS}{w:World}{n i:Nat}{v:Value}{a:List Nat}{x:Nat}(q:Row w d n v (xP a))(m:a[i]? =W x):∃g o cap,v=Y (W ⟨g,o,O⟩) n cap/\d g/\g < w.heap.size/\w.cell? ⟨g,o+i,O⟩=W (V I (x:Int)):=by
 obtain⟨s,g,o,cap,k,r,l,j⟩:=q;have b:(xP a)[i]? =W (V I (x:Int)):=by unfold xP;rw[List.getElem?_map,m];rfl
 have c:xP a≠[]:=λe=>by rw[e]at b;simp at b
 obtain⟨rfl,p,f⟩:=j c;exact⟨g,o,cap,k,l c,p,f _ _ b⟩
theorem sS{w:World}{q:Nat}{a:Value}{T:TypeId}(b:w.heap[q]? =W (J #[a] T (0,0))):w.cell? ⟨q,0,O⟩=W a/\w.frozen? ⟨q,0,O⟩=false:=⟨ae b 0,ag b 0⟩
theorem bO{w:World}{q:Nat}{b c:Value}{T:TypeId}(a:w.heap[q]? =W (J #[b,c] T (0,0))):w.cell? ⟨q,0,O⟩=W b/\w.cell? ⟨q,1,O⟩=W c/\w.frozen? ⟨q,0,O⟩=false/\w.frozen? ⟨q,1,O⟩=false:=⟨ae a 0,ae a 1,ag a 0,ag a 1⟩
theorem bv{w:World}{q:Nat}{b c d:Value}{T:TypeId}(a:w.heap[q]? =W (J #[b,c,d] T (0,0))):w.cell? ⟨q,0,O⟩=W b/\w.cell? ⟨q,1,O⟩=W c/\w.cell? ⟨q,2,O⟩=W d/\w.frozen? ⟨q,0,O⟩=false/\w.frozen? ⟨q,1,O⟩=false/\w.frozen? ⟨q,2,O⟩=false:=⟨ae a 0,ae a 1,ae a 2,ag a 0,ag a 1,ag a 2⟩
theorem pC{w:World}{q:Nat}{b c d e:Value}{T:TypeId}(a:w.heap[q]? =W (J #[b,c,d,e] T (0,0))):w.cell? ⟨q,0,O⟩=W b/\w.cell? ⟨q,1,O⟩=W c/\w.cell? ⟨q,2,O⟩=W d/\w.cell? ⟨q,3,O⟩=W e/\w.frozen? ⟨q,0,O⟩=false/\w.frozen? ⟨q,1,O⟩=false/\w.frozen? ⟨q,2,O⟩=false/\w.frozen? ⟨q,3,O⟩=false:=⟨ae a 0,ae a 1,ae a 2,ae a 3,ag a 0,ag a 1,ag a 2,ag a 3⟩
theorem pE{w:World}{q:Nat}{c d e f b g:Value}{T:TypeId}(a:w.heap[q]? =W (J #[c,d,e,f,b,g] T (0,0))):w.cell? ⟨q,0,O⟩=W c/\w.cell? ⟨q,1,O⟩=W d/\w.cell? ⟨q,2,O⟩=W e/\w.cell? ⟨q,3,O⟩=W f/\w.cell? ⟨q,4,O⟩=W b/\w.cell? ⟨q,5,O⟩=W g/\w.frozen? ⟨q,0,O⟩=false/\w.frozen? ⟨q,1,O⟩=false/\w.frozen? ⟨q,2,O⟩=false/\w.frozen? ⟨q,3,O⟩=false/\w.frozen? ⟨q,4,O⟩=false/\w.frozen? ⟨q,5,O⟩=false:=⟨ae a 0,ae a 1,ae a 2,ae a 3,ae a 4,ae a 5,ag a 0,ag a 1,ag a 2,ag a 3,ag a 4,ag a 5⟩
theorem bd{w:World}{q:Nat}{c d e f b g i:Value}{T:TypeId}(a:w.heap[q]? =W (J #[c,d,e,f,b,g,i] T (0,0))):w.cell? ⟨q,0,O⟩=W c/\w.cell? ⟨q,1,O⟩=W d/\w.cell? ⟨q,2,O⟩=W e/\w.cell? ⟨q,3,O⟩=W f/\w.cell? ⟨q,4,O⟩=W b/\w.cell? ⟨q,5,O⟩=W g/\w.cell? ⟨q,6,O⟩=W i/\w.frozen? ⟨q,0,O⟩=false/\w.frozen? ⟨q,1,O⟩=false/\w.frozen? ⟨q,2,O⟩=false/\w.frozen? ⟨q,3,O⟩=false/\w.frozen? ⟨q,4,O⟩=false/\w.frozen? ⟨q,5,O⟩=false/\w.frozen? ⟨q,6,O⟩=false:=⟨ae a 0,ae a 1,ae a 2,ae a 3,ae a 4,ae a 5,ae a 6,ag a 0,ag a 1,ag a 2,ag a 3,ag a 4,ag a 5,ag a 6⟩
theorem wZ{w:World}{q:Nat}{c e:Value}{T:TypeId}(d:w.heap[q]? =W (J #[c,e] T (0,0)))(b a:Value):((w.setCell ⟨q,0,O⟩ b).setCell ⟨q,1,O⟩ a).heap[q]? =W (J #[b,a] T (0,0))/\Far (·=q) w ((w.setCell ⟨q,0,O⟩ b).setCell ⟨q,1,O⟩ a):=⟨(ai (ai d 0 b) 1 a),(((ξ (·=q) w).setCell (p:=⟨q,0,O⟩) (λ_=>rfl) b).setCell (p:=⟨q,1,O⟩) (λ_=>rfl) a)⟩
theorem xv{w:World}{q:Nat}{d f g:Value}{T:TypeId}(e:w.heap[q]? =W (J #[d,f,g] T (0,0)))(b a c:Value):(((w.setCell ⟨q,0,O⟩ b).setCell ⟨q,1,O⟩ a).setCell ⟨q,2,O⟩ c).heap[q]? =W (J #[b,a,c] T (0,0))/\Far (·=q) w (((w.setCell ⟨q,0,O⟩ b).setCell ⟨q,1,O⟩ a).setCell ⟨q,2,O⟩ c):=⟨(ai (ai (ai e 0 b) 1 a) 2 c),((((ξ (·=q) w).setCell (p:=⟨q,0,O⟩) (λ_=>rfl) b).setCell (p:=⟨q,1,O⟩) (λ_=>rfl) a).setCell (p:=⟨q,2,O⟩) (λ_=>rfl) c)⟩
theorem xL{w:World}{q:Nat}{i k l m g n:Value}{T:TypeId}(j:w.heap[q]? =W (J #[i,k,l,m,g,n] T (0,0)))(c a d f e b:Value):((((((w.setCell ⟨q,0,O⟩ c).setCell ⟨q,1,O⟩ a).setCell ⟨q,2,O⟩ d).setCell ⟨q,3,O⟩ f).setCell ⟨q,4,O⟩ e).setCell ⟨q,5,O⟩ b).heap[q]? =W (J #[c,a,d,f,e,b] T (0,0))/\Far (·=q) w ((((((w.setCell ⟨q,0,O⟩ c).setCell ⟨q,1,O⟩ a).setCell ⟨q,2,O⟩ d).setCell ⟨q,3,O⟩ f).setCell ⟨q,4,O⟩ e).setCell ⟨q,5,O⟩ b):=⟨(ai (ai (ai (ai (ai (ai j 0 c) 1 a) 2 d) 3 f) 4 e) 5 b),(((((((ξ (·=q) w).setCell (p:=⟨q,0,O⟩) (λ_=>rfl) c).setCell (p:=⟨q,1,O⟩) (λ_=>rfl) a).setCell (p:=⟨q,2,O⟩) (λ_=>rfl) d).setCell (p:=⟨q,3,O⟩) (λ_=>rfl) f).setCell (p:=⟨q,4,O⟩) (λ_=>rfl) e).setCell (p:=⟨q,5,O⟩) (λ_=>rfl) b)⟩
theorem xK{w:World}{q:Nat}{m o r i k j l:Value}{T:TypeId}(n:w.heap[q]? =W (J #[m,o,r,i,k,j,l] T (0,0)))(e a f d g b c:Value):(((((((w.setCell ⟨q,0,O⟩ e).setCell ⟨q,1,O⟩ a).setCell ⟨q,2,O⟩ f).setCell ⟨q,3,O⟩ d).setCell ⟨q,4,O⟩ g).setCell ⟨q,5,O⟩ b).setCell ⟨q,6,O⟩ c).heap[q]? =W (J #[e,a,f,d,g,b,c] T (0,0))/\Far (·=q) w (((((((w.setCell ⟨q,0,O⟩ e).setCell ⟨q,1,O⟩ a).setCell ⟨q,2,O⟩ f).setCell ⟨q,3,O⟩ d).setCell ⟨q,4,O⟩ g).setCell ⟨q,5,O⟩ b).setCell ⟨q,6,O⟩ c):=⟨(ai (ai (ai (ai (ai (ai (ai n 0 e) 1 a) 2 f) 3 d) 4 g) 5 b) 6 c),((((((((ξ (·=q) w).setCell (p:=⟨q,0,O⟩) (λ_=>rfl) e).setCell (p:=⟨q,1,O⟩) (λ_=>rfl) a).setCell (p:=⟨q,2,O⟩) (λ_=>rfl) f).setCell (p:=⟨q,3,O⟩) (λ_=>rfl) d).setCell (p:=⟨q,4,O⟩) (λ_=>rfl) g).setCell (p:=⟨q,5,O⟩) (λ_=>rfl) b).setCell (p:=⟨q,6,O⟩) (λ_=>rfl) c)⟩
theorem cR{a b d:World}(c:Below a.heap.size a b)(k:Below b.heap.size b d):Below a.heap.size a d:=c.trans (k.mono c.size)
theorem cq{w:World}{a:Nat}{o:Obj}(b:w.heap[a]? =W o):w.drew.heap[a]? =W o:=b
theorem Far.new{a b c:World}{q:Nat}(d:Far xO a b)(f:a.heap.size<=q)(k:Far (·=q) b c):Below a.heap.size a c:=(d.step k (λi g e=>by omega)).to_below (η _) (λ_ _ e=>e)
theorem fW(d:Int)(a:Option Addr)(n f i:Nat)(j:i < n)(w:World):Calls π 162 #[γ #[V I d,Y a n f],V I (i:Int)] w λe w'=>e=ρ (β true)/\Below w.heap.size w w':=by
 have c:=λb=>uJ (i:Int) 0 b;rw[decide_eq_true (Int.natCast_nonneg i)]at c;have g:=λb=>wG (i:Int) (n:Int) b;rw[decide_eq_true (by omega:(i:Int) < (n:Int))]at g
 go_enter func162,ntmps162
 go_wp2_with fail
 go_ret
 exact⟨rfl,(ζ _ _).alloc (η _) _⟩
theorem qx{d:Func}{a e:Tmp}(g:d.results=#[.cell a 256,.tmp e])(c:World)(q:Nat)(x:Array Value)(b:Array Value)(j:c.heap[q]? =W (J x 256 (0,0)))(l:x.size=7)(k:b.getD a undef=Z (W ⟨q,0,O⟩)):
 (results d b).run π c=.ok (.tuple #[γ x,b.getD e undef]) c:=by
 have f:b[a]?.getD undef=Z (W ⟨q,0,O⟩):=by simpa using k
 have i:=run_loadVar_row (P:=π) c q 256 256 x (0,0) _ j underlying256 rfl (by rw[l];kernel_rfl);simp[results,g,asAddr,f,i,Sem.run_bind,Result.andThen]
def yH(x:Tp.Nd)(kv a:Value)(n:Nat):Value:=γ #[V I x.k,V I x.x.k,V I x.x.n,xR x.x.s,kv,a,V I (n:Int)]
theorem cj(c:Int)(D:NS)(v kv r:Value)(n i:Nat)(x:Tp.Nd)(w:World)(b:yN w D v n i x kv r):Calls π 121 #[γ #[V I c,v],V I (i:Int)] w λe w'=>e=ρ (.tuple #[yH x kv r n,V I 0])/\Below w.heap.size w w':=by
 obtain⟨d,o,cap,rfl,a5,s,t,u,c3,c4,c5⟩:=b.cells;have q:=fW c (W ⟨d,o,O⟩) n cap i b.lt;have an:=b.lt;unfold yH;obtain⟨H,l,rfl,_⟩:=b.key.form;obtain⟨L,j,rfl,_⟩:=b.kid.form;obtain⟨g,z⟩:∃g,xR x.x.s=U g:=⟨_,rfl⟩;rw[z]at c3 ⊢;generalize x.k=K at *;generalize x.x.k=E at *;generalize x.x.n=F at *;generalize x.keys.length=M at *;generalize x.kids.length=G at *;have y:=zD q;clear q b z;have a6:(0:Int)<=(i:Int):=by omega
 have N:(i:Int) < (n:Int):=by omega
 go_enter func121,ntmps121
 go_wp2_with fail
 refine(y.out _).mono ?_;rintro e P ⟨rfl,f⟩;have m:Far xO w ((w.alloc (J #[V I c,Y (W ⟨d,o,O⟩) n cap] 54)).alloc (J #[V I 0,V I 0,V I 0,U ⟨#[]⟩,Y O 0 0,Y O 0 0,V I 0] 256)):=((ξ _ w).alloc _).alloc _;have a:=m.below f;have p:=(f.block w.heap.size (by simp;omega)).trans (aa _ (af w (J #[V I c,Y (W ⟨d,o,O⟩) n cap] 54)));have k:=(f.block (w.heap.size+1) (by simp)).trans (ah (w.alloc (J #[V I c,Y (W ⟨d,o,O⟩) n cap] 54)) (J #[V I 0,V I 0,V I 0,U ⟨#[]⟩,Y O 0 0,Y O 0 0,V I 0] 256) (w.heap.size+1) (by simp))
 replace s:=a.at s id
 replace t:=a.at t id
 replace u:=a.at u id
 replace c3:=a.at c3 id
 replace c4:=a.at c4 id
 replace c5:=a.at c5 id
 have ao:=zF p 1 rfl;obtain⟨a3,ac,T,a1,X,R,av,a4,S,a0,ab,a2,ad,al⟩:=bd k;obtain⟨A,C⟩:=zx2 k a;clear f m a p k y
 go_wp2_with fail
 go_region
 all_goals (
  go_wp2_with fail
  obtain⟨l,j⟩:=xK A.out (V I K) (V I E) (V I F) (U g) (Y H M l) (Y L G j) (V I (n:Int));exact bodyPost_ret (qx results121 _ _ _ _ (cq l) rfl rfl) rfl ⟨rfl,C.out.new (by omega) j.drew⟩)
theorem vU:prog.underlying 4=W .bool:=by kernel_rfl
theorem a7(b:Nat)(k:b=246\/b=240)(q n:Nat)(m:n<=100)(w:World)(i:∀j,j < n->w.cell? ⟨q,j,O⟩=W (β true)):Calls π b #[Y (W ⟨q,0,O⟩) n n] w λe w'=>e=ρ (β true)/\w'=w:=by
 have c:=bY Value.bool (λx a=>x==a) (Go.Proofs.EqlAt.bool 4 vU) q 0 n n (List.replicate n true) false w (by simp) (by omega) (λj d=>by
  rw[List.length_replicate]at d;rw[Nat.zero_add,i j d];simp[d])
 have f:(((List.replicate n true).take n).any λa=>false==a)=false:=by simp
 rw[f]at c;have g:=zD c;clear c f i;rcases k with rfl|rfl
 ·go_enter func246,ntmps246
  go_wp2_with fail
  refine g.out.mono ?_;rintro e l ⟨rfl,rfl⟩
  go_wp2_with fail
  go_ret
  exact⟨rfl,rfl⟩
 ·go_enter func240,ntmps240
  go_wp2_with fail
  refine g.out.mono ?_;rintro e l ⟨rfl,rfl⟩
  go_wp2_with fail
  go_ret
  exact⟨rfl,rfl⟩
theorem o8(K b c g:Int)(a T:ByteArray)(i k:Option Addr)(ad ac f d:Nat)(w:World)(q:∀m,Far xO w m->Calls π 20 #[γ #[V I b,V I c,U a]] m λe w'=>e=ρ (β true)/\Below m.heap.size m w'):
 Calls π 214 #[γ #[V I K,V I b,V I c,U a,Y i 0 f,Y k 0 d,V I g]] w λe w'=>e=ρ (β true)/\Below w.heap.size w w':=by
 have p:Far xO w (w.alloc (J #[V I K,V I b,V I c,U a,Y i 0 f,Y k 0 d,V I g] 256)):=(ξ _ w).alloc _;have o:=af w (J #[V I K,V I b,V I c,U a,Y i 0 f,Y k 0 d,V I g] 256);obtain⟨S,N,L,R,M,H,P,_⟩:=bd o;have A:=zD q;clear q
 go_enter func214,ntmps214
 go_upto_region 1 with (fail)
 have t:=zD p;generalize (w.alloc (J #[V I K,V I b,V I c,U a,Y i 0 f,Y k 0 d,V I g] 256))=l at *;have G:∀wx,Far xO l wx->wx.cell? ⟨w.heap.size,0,O⟩=W (V I K)/\wx.cell? ⟨w.heap.size,1,O⟩=W (V I b)/\wx.cell? ⟨w.heap.size,2,O⟩=W (V I c)/\wx.cell? ⟨w.heap.size,3,O⟩=W (U a)/\wx.cell? ⟨w.heap.size,4,O⟩=W (Y i 0 f)/\wx.cell? ⟨w.heap.size,5,O⟩=W (Y k 0 d)/\wx.cell? ⟨w.heap.size,6,O⟩=W (V I g):=λwx y=>by obtain⟨r,u,F,v,z,x,s,_⟩:=bd (y.heap o id);exact⟨r,u,F,v,z,x,s⟩
 go_region_held3 (λw'=>w'.cell? ⟨w.heap.size,0,O⟩=W (V I K)/\w'.cell? ⟨w.heap.size,1,O⟩=W (V I b)/\w'.cell? ⟨w.heap.size,2,O⟩=W (V I c)/\w'.cell? ⟨w.heap.size,3,O⟩=W (U a)/\w'.cell? ⟨w.heap.size,4,O⟩=W (Y i 0 f)/\w'.cell? ⟨w.heap.size,5,O⟩=W (Y k 0 d)/\w'.cell? ⟨w.heap.size,6,O⟩=W (V I g)) (exact G _ (by repeat (first|exact ξ _ _|assumption|refine Far.drew ?_|refine Far.alloc ?_ _|refine Far.drewN ?_ _))) (first|(go_at_call 20;refine(A.out l.drew p.drew).mono ?_;rintro e n ⟨rfl,D⟩;have ab:Far xO l n:=((ξ _ l).drew).below D)|(go_at_call 246;refine(a7 246 (.inl rfl) _ 3 (by omega) _ (by intro j X;have C:j=0\/j=1\/j=2:=(by omega);rcases C with rfl|rfl|rfl<;>exact aY rfl rfl)).mono ?_;rintro e al ⟨rfl,rfl⟩))
 have E:Far xO l (n.alloc (J #[β true,β true,β true] 4)):=by repeat (first|exact ξ _ _|assumption|refine Far.drew ?_|refine Far.alloc ?_ _|refine Far.drewN ?_ _)
 go_wp2_with fail
 go_ret
 exact⟨rfl,(t.out.trans E).to_below (η _) (λ_ _ e=>e)⟩
theorem o7(K b c T:Int)(a g:ByteArray)(i k:Option Addr)(ad ac f d:Nat)(w:World)(q:∀m,Far xO w m->Calls π 20 #[γ #[V I b,V I c,U a]] m λe w'=>e=ρ (β true)/\Below m.heap.size m w'):
 Calls π 207 #[γ #[V I K,U g,V I b,V I c,U a,Y i 0 f,Y k 0 d]] w λe w'=>e=ρ (β true)/\Below w.heap.size w w':=by
 have p:Far xO w (w.alloc (J #[V I K,U g,V I b,V I c,U a,Y i 0 f,Y k 0 d] 161)):=(ξ _ w).alloc _;have o:=af w (J #[V I K,U g,V I b,V I c,U a,Y i 0 f,Y k 0 d] 161);obtain⟨S,N,L,R,M,H,P,_⟩:=bd o;have A:=zD q;clear q
 go_enter func207,ntmps207
 go_upto_region 1 with (fail)
 have t:=zD p;generalize (w.alloc (J #[V I K,U g,V I b,V I c,U a,Y i 0 f,Y k 0 d] 161))=l at *;have G:∀wx,Far xO l wx->wx.cell? ⟨w.heap.size,0,O⟩=W (V I K)/\wx.cell? ⟨w.heap.size,1,O⟩=W (U g)/\wx.cell? ⟨w.heap.size,2,O⟩=W (V I b)/\wx.cell? ⟨w.heap.size,3,O⟩=W (V I c)/\wx.cell? ⟨w.heap.size,4,O⟩=W (U a)/\wx.cell? ⟨w.heap.size,5,O⟩=W (Y i 0 f)/\wx.cell? ⟨w.heap.size,6,O⟩=W (Y k 0 d):=λwx y=>by obtain⟨r,u,F,v,z,x,s,_⟩:=bd (y.heap o id);exact⟨r,u,F,v,z,x,s⟩
 go_region_held3 (λw'=>w'.cell? ⟨w.heap.size,0,O⟩=W (V I K)/\w'.cell? ⟨w.heap.size,1,O⟩=W (U g)/\w'.cell? ⟨w.heap.size,2,O⟩=W (V I b)/\w'.cell? ⟨w.heap.size,3,O⟩=W (V I c)/\w'.cell? ⟨w.heap.size,4,O⟩=W (U a)/\w'.cell? ⟨w.heap.size,5,O⟩=W (Y i 0 f)/\w'.cell? ⟨w.heap.size,6,O⟩=W (Y k 0 d)) (exact G _ (by repeat (first|exact ξ _ _|assumption|refine Far.drew ?_|refine Far.alloc ?_ _|refine Far.drewN ?_ _))) (first|(go_at_call 20;refine(A.out l.drew p.drew).mono ?_;rintro e n ⟨rfl,D⟩;have ab:Far xO l n:=((ξ _ l).drew).below D)|(go_at_call 240;refine(a7 240 (.inr rfl) _ 3 (by omega) _ (by intro j X;have C:j=0\/j=1\/j=2:=(by omega);rcases C with rfl|rfl|rfl<;>exact aY rfl rfl)).mono ?_;rintro e al ⟨rfl,rfl⟩))
 have E:Far xO l (n.alloc (J #[β true,β true,β true] 4)):=by repeat (first|exact ξ _ _|assumption|refine Far.drew ?_|refine Far.alloc ?_ _|refine Far.drewN ?_ _)
 go_wp2_with fail
 go_ret
 exact⟨rfl,(t.out.trans E).to_below (η _) (λ_ _ e=>e)⟩
theorem iW(x:Tp.Sc)(a:x8 x=true)(b:x.s.length<=1000)(w:World)(c:Glob w):Calls π 20 #[scV x] w λe w'=>e=ρ (β true)/\Below w.heap.size w w':=by
 rw[<-a];exact fy x b w c
theorem ki(c:Nat)(o:c=279\/c=273)(x:Tp.Sc)(p:x8 x=true)(q:x.s.length<=1000)(w:World)(i:Glob w):Calls π c #[scV x] w λe w'=>e=ρ (β false)/\Below w.heap.size w w':=by
 have l:=λn i=>iW x p q n i;have d:Below w.heap.size w (w.alloc (J #[V I x.k,V I x.n,xR x.s] 30)):=(ζ _ _).alloc (η _) _;have j:=l _ (i.step d);unfold scV at j ⊢;obtain⟨b,f⟩:=zx2 d j;clear l j d;obtain⟨k,r⟩:∃k,xR x.s=U k:=⟨_,rfl⟩;rw[r]at f b ⊢;rcases o with rfl|rfl
 ·go_enter func279,ntmps279
  go_wp2_with fail
  refine f.out.mono ?_;rintro e m ⟨rfl,a⟩;have g:=cR b.out a;clear a
  go_wp2_with fail
  go_ret
  exact⟨rfl,g⟩
 ·go_enter func273,ntmps273
  go_wp2_with fail
  refine f.out.mono ?_;rintro e m ⟨rfl,a⟩;have g:=cR b.out a;clear a
  go_wp2_with fail
  go_ret
  exact⟨rfl,g⟩
theorem rT(a:Nat)(b:a=279\/a=273)(args:Array Value)(w:World):(callFunc a args).run π w=.ok (.enter a args) w:=by rcases b with rfl|rfl<;>kernel_rfl
theorem ms(d:Nat)(A:d=279\/d=273)(b:List Tp.Sc)(v:Value)(G:NS)(w:World)(r:Row w G b.length v (xV b))(q:∀x∈b,x8 x=true/\x.s.length<=1000)(m:Glob w):Calls π 300 #[v,φ (.func d) #[] #[]] w λe w'=>e=ρ (V I (-1))/\Below w.heap.size w w':=by
 obtain⟨a,an,rfl,D⟩:=r.form;have E:=λ(i:Nat) (x:Tp.Sc) (f:b[i]? =W x) (t:World) (m:Glob t)=>ki d A x (q x (zL (l:=b) (i:=i) f)).1 (q x (zL (l:=b) (i:=i) f)).2 t m;have L:b.length<=9223372036854775807:=D;obtain⟨c,C⟩:∃c,b.length=c:=⟨_,rfl⟩;have ao:=rT d A;obtain⟨z,H,P⟩:=zx3 r m E;rw[C]at L z ⊢;clear E r q D m
 go_enter func300,ntmps300
 go_wp2_with fail
 go_loopw [5,8] (λ_ p wr=>∃j:Nat,j<=c/\p=V I (j:Int)/\Below w.heap.size w wr) (λ_ p _=>c - (Lib.intOf p).toNat)
 case atStart=>exact⟨0,z_ _,rfl,ζ _ _⟩
 case round=>
  obtain⟨j,al,rfl,k⟩:=hrel;by_cases y:j < c
  ·obtain⟨x,f⟩:∃x,b[j]? =W x:=⟨_,zE (by rw[C];exact y)⟩
   obtain⟨g,o,cap,e,_,X,ab,ac,N⟩:=(z.out.below k).sc f;injection e with e1 e2 e3;subst e1 e3;have n:=P.out j x f wr (H.out.step k);unfold scV at n;obtain⟨s,S⟩:∃s,xR x.s=U s:=⟨_,rfl⟩;rw[S]at n N;have M:=zD n;have F:(j:Int) < (c:Int):=by omega
   have ad:(0:Int)<=(j:Int):=by omega
   clear n f
   go_wp2_with (go_at_fn d;refine M.out.mono ?_;rintro e T ⟨rfl,u⟩;have R:=cR k u;clear u)
   go_roundw
   case rel=>exact⟨j+1,y,by go_num,R⟩
   case measure=>simp[Lib.intOf];omega
  ·have F:¬(j:Int) < (c:Int):=by omega
   go_wp2_with fail
   go_ret
   exact⟨rfl,k⟩
theorem eE(a:Nat)(g:a=279\/a=273)(b:List Tp.Sc)(v:Value)(c:NS)(w:World)(f:Row w c b.length v (xV b))(d:∀x∈b,x8 x=true/\x.s.length<=1000)(k:Glob w):Calls π 274 #[v,φ (.func a) #[] #[]] w λe w'=>e=ρ (β false)/\Below w.heap.size w w':=by
 have i:=zD (ms a g b v c w f d k);clear f d
 go_enter func274,ntmps274
 go_wp2_with fail
 refine i.out.mono ?_;rintro e l ⟨rfl,j⟩
 go_wp2_with fail
 go_ret
 exact⟨rfl,j⟩
theorem nG:laidOutB π=true:=by kernel_rfl
theorem vT:(match prog.underlying 30 with|some (.array _ _)|some (.struct _)=>true|_=>false)=true:=by kernel_rfl
theorem uN:(match prog.underlying 387 with|some (.array _ _)|some (.struct _)=>true|_=>false)=true:=by kernel_rfl
theorem mD:Maps.Keyed π 30:=Maps.Keyed.of_law (deep_law_laid nG (m:=3) (by omega) (of_decide_eq_true (by kernel_rfl)) (by kernel_rfl) vT)
theorem eY:Maps.Keyed π 387:=Maps.Keyed.of_law (deep_law_laid nG (m:=4) (by omega) (of_decide_eq_true (by kernel_rfl)) (by kernel_rfl) uN)
theorem lJ:prog.underlying 30=W (.struct (prog.fieldsOf 30)):=by kernel_rfl
theorem iK:prog.underlying 387=W (.struct (prog.fieldsOf 387)):=by kernel_rfl
theorem xH:(prog.fieldsOf 30).toList.map (λa=>(a.type,a.offset,a.name != "_"))=[(3,0,true),(3,1,true),(9,2,true)]:=by kernel_rfl
theorem wR:(prog.fieldsOf 387).toList.map (λa=>(a.type,a.offset,a.name != "_"))=[(3,0,true),(30,1,true),(9,4,true),(9,5,true)]:=by kernel_rfl
theorem xI:prog.cellsOf 30=3:=by kernel_rfl
theorem co3:prog.cellsOf 3=1:=by kernel_rfl
theorem co9:prog.cellsOf 9=1:=by kernel_rfl
theorem xD:prog.cellsOf 387=6:=by kernel_rfl
theorem un3:prog.underlying 3=W (.int I):=by kernel_rfl
theorem un9:prog.underlying 9=W .string:=by kernel_rfl
theorem xN:prog.keyType 30=true:=by kernel_rfl
theorem xz:prog.keyType 387=true:=by kernel_rfl
theorem tsz:prog.types.size=3+(prog.types.size - 3):=by kernel_rfl
theorem xy(d:Nat)(n:Int)(a:(Lit.int I n).wf=true):prog.keyLits (d+1) 3 [.int I n]=W [.int I n]:=by
 simp[Program.keyLits,un3,a]
theorem xx(d:Nat)(s:ByteArray)(a:s.size<=maxLen):prog.keyLits (d+1) 9 [.string s]=W [.string s.data.toList]:=by
 simp[Program.keyLits,un9,a]
theorem fO{α c d:Type}(b:α->c)(a:c->Option d):∀l:List α,(l.map b).mapM a=l.mapM (λx=>a (b x))
 | []=>rfl
 |x::r=>by rw[List.map_cons,List.mapM_cons,List.mapM_cons,fO b a r]
theorem lj(b:Array Field)(l:List (TypeId × Nat × Bool))(c:b.toList.map (λa=>(a.type,a.offset,a.name != "_"))=l)(d:l.all (λx=>x.2.2)=true):b.all (·.name != "_")=true:=by
 rw[<-Array.all_toList,<-d,<-c,List.all_map];rfl
theorem uE(d:Nat)(k n:Int)(s:ByteArray)(c:(Lit.int I k).wf=true)(b:(Lit.int I n).wf=true)(e:s.size<=maxLen):prog.keyLits (d+1+1) 30 [.int I k,.int I n,.string s]=W [.int I k,.int I n,.string s.data.toList]:=by
 unfold Program.keyLits;simp only[lJ];rw[if_pos ⟨xI.symm,lj _ _ xH rfl⟩];have:=fO (λa:Field=>(a.type,a.offset,a.name != "_")) (λx=>prog.keyLits (d+1) x.1 (([Value.int I k,.int I n,.string s].drop x.2.1).take (prog.cellsOf x.1))) (prog.fieldsOf 30).toList;rw[xH]at this;rw[<-this];simp[co3,co9,xy d _ c,xy d _ b,xx d _ e]
theorem vy(d:Nat)(c k n:Int)(s a e:ByteArray)(m:(Lit.int I c).wf=true)(i:(Lit.int I k).wf=true)(f:(Lit.int I n).wf=true)(o:s.size<=maxLen)(g:a.size<=maxLen)(j:e.size<=maxLen):∃l,prog.keyLits (d+1+1+1) 387 [.int I c,.int I k,.int I n,.string s,.string a,.string e]=W l:=by
 unfold Program.keyLits;simp only[iK];rw[if_pos ⟨xD.symm,lj _ _ wR rfl⟩];have:=fO (λb:Field=>(b.type,b.offset,b.name != "_")) (λx=>prog.keyLits (d+1+1) x.1 (([Value.int I c,.int I k,.int I n,.string s,.string a,.string e].drop x.2.1).take (prog.cellsOf x.1))) (prog.fieldsOf 387).toList;rw[wR]at this;rw[<-this];simp[co3,co9,xI,xy (d+1) _ m,uE d k n s i f o,xx (d+1) _ g,xx (d+1) _ j]
theorem uO(n:Int)(b:-9223372036854775808<=n)(a:n<=9223372036854775807):(Lit.int I n).wf=true:=by
 simp[Lit.wf,IntKind.min,IntKind.max,IntKind.bits,IntKind.signed]
 omega
theorem xA(k n:Int)(s:ByteArray)(d:(Lit.int I k).wf=true)(c:(Lit.int I n).wf=true)(e:s.size<=maxLen):∃l,keyOf π 30 (γ #[.int I k,.int I n,.string s])=W l:=by
 unfold keyOf;rw[lJ];simp only;have b:(Value.agg #[.int I k,.int I n,.string s]).formed π 30=true:=by simp[Value.formed,lJ,xI]
 rw[xN,b];have a:=uE (prog.types.size - 3+2) k n s d c e;rw[show prog.types.size - 3+2+1+1=prog.types.size+1 by have:=tsz;omega]at a;exact⟨_,by rw[show (Value.agg #[.int I k,.int I n,.string s]).cells.toList=[.int I k,.int I n,.string s]from rfl,a];rfl⟩
theorem wO(b k n:Int)(s a c:ByteArray)(m:(Lit.int I b).wf=true)(i:(Lit.int I k).wf=true)(f:(Lit.int I n).wf=true)(o:s.size<=maxLen)(g:a.size<=maxLen)(j:c.size<=maxLen):∃l,keyOf π 387 (γ #[.int I b,.int I k,.int I n,.string s,.string a,.string c])=W l:=by
 unfold keyOf;rw[iK];simp only;have e:(Value.agg #[.int I b,.int I k,.int I n,.string s,.string a,.string c]).formed π 387=true:=by simp[Value.formed,iK,xD]
 rw[xz,e];obtain⟨l,d⟩:=vy (prog.types.size - 3+1) b k n s a c m i f o g j;rw[show prog.types.size - 3+1+1+1+1=prog.types.size+1 by have:=tsz;omega]at d;exact⟨_,by rw[show (Value.agg #[.int I b,.int I k,.int I n,.string s,.string a,.string c]).cells.toList=[.int I b,.int I k,.int I n,.string s,.string a,.string c]from rfl,d];rfl⟩
section
attribute [local go_sem] ak
def yB:List Tp.Sc->List Tp.Sc->Nat
 |_,[]=>0
 |met,x::r=>if x∈met then 0 else yB (met++[x]) r+1
theorem dT:∀(l a:List Tp.Sc),yB a l<=l.length
 | [],_=>η _
 |x::r,a=>by
  unfold yB;split
  ·exact z_ _
  ·have:=dT r (a++[x])
   rw[zO];omega
theorem eI:∀(l b:List Tp.Sc),b.Nodup->(yB b l=l.length↔(b++l).Nodup)
 | [],b,h=>by simp[yB,h]
 |x::r,b,h=>by
  unfold yB;by_cases c:x∈b
  ·rw[if_pos c]
   constructor
   ·intro e;simp at e
   ·intro f
    rw[List.nodup_append]at f;exact absurd rfl (f.2.2 x c x (by simp))
  ·have g:(b++[x]).Nodup:=by
    rw[List.nodup_append];exact⟨h,by simp,λa i j d e=>by simp at d;subst d;subst e;exact c i⟩
   rw[if_neg c,zO,Nat.add_right_cancel_iff,eI r _ g,List.append_assoc];rfl
theorem fZ:∀(l a:List Tp.Sc) (t:Nat) (x:Tp.Sc),t<=yB a l->l[t]? =W x->(t < yB a l↔x ∉ a++l.take t)
 | [],a,t,x,_,h=>by simp at h
 |y::r,a,0,x,_,h=>by
  simp at h
  subst h;unfold yB;by_cases b:y∈a<;>simp[b]
 |y::r,a,t+1,x,ht,h=>by
  unfold yB at ht ⊢;by_cases b:y∈a
  ·rw[if_pos b]at ht;omega
  ·rw[if_neg b]at ht ⊢
   rw[Nat.add_lt_add_iff_right,fZ r (a++[y]) t x (by omega) (by simpa using h),List.append_assoc];rfl
theorem rH(v:Value)(c:∃a n b,v=Y a n b)(w:World):Calls π 25 #[v] w λe w'=>e=ρ (φ (.func 41) #[] #[Z (W ⟨w.heap.size,0,O⟩)])/\w'=w.alloc (J #[v] 28):=by
 obtain⟨a,n,b,rfl⟩:=c
 go_enter func25,ntmps25
 go_wp2
 go_ret
 exact⟨rfl,rfl⟩
theorem ue(args:Array Value)(w:World):(callFunc 41 args).run π w=.ok (.enter 41 args) w:=by kernel_rfl
theorem jA(w:World):(zeroValue 4).run π w=.ok (β false) w:=by kernel_rfl
def AN(l:List Tp.Sc):List (Value × Value):=l.map λx=>(scV x,β true)
theorem qh{x c:Tp.Sc}(b:scV x=scV c):x=c:=by
 obtain⟨a,e,g⟩:=x;obtain⟨d,i,f⟩:=c;unfold scV xR at b;simp at b
 obtain⟨rfl,rfl,b⟩:=b;rw[b]
def AO(x:Tp.Sc):Prop:=(Lit.int I x.k).wf=true/\(Lit.int I x.n).wf=true/\x.s.length<=1000
theorem wN(x:Tp.Sc)(a:AO x):∃l,keyOf π 30 (scV x)=W l:=xA _ _ _ a.1 a.2.1 (Nat.le_trans (show (⟨x.s.toArray⟩:ByteArray).size<=1000 from a.2.2) (by decide))
theorem pk(c:List Tp.Sc)(v:Value)(u:NS)(E:Nat)(w:World)(ck:∀x∈c,AO x)(bk:∀k,u k->k < w.heap.size)(f:Row w u c.length v (xV c))(A:w.heap[E]? =W (.cells #[v] 28 (0,0))):
 yQ π 41 #[.pointer (W ⟨E,0,O⟩)] 3 (yB [] c) (λ_ d5 di _=>d5.size=1/\di=xO) xO (λk=>k=E\/u k) True (λ_ _=>True) (λ_=>True) w:=by
 intro l J en ac d al b2 hF0 a5 bx bw ca bq
 replace A:=(al.block _ (lt_of_heap A)).trans A
 replace f:=f.below al
 obtain⟨base,b8⟩:∃dn,w.heap.size=dn:=⟨_,rfl⟩;rw[b8]at a5 bx;have ei:base<=d.heap.size:=by have:=al.size;omega
 have c0:∀k,ac k->k≠d.heap.size/\k≠E/\¬u k:=λk b=>⟨λe=>by have:=(bw 0 ac d bq).2 trivial k b;omega,λe=>(hF0 k b).2 (.inl e),λe=>(hF0 k b).2 (.inr e)⟩;obtain⟨a,df,rfl,cc⟩:=f.form;have ej:c.length<=9223372036854775807:=cc;have a4:RowKit.Hid (∀k,u k->k < d.heap.size):=zD (λk r=>by have:=bk k r;omega);obtain⟨av,e0,co,b1,bs,a2⟩:=zx6 a5 bx ca c0 A f;obtain⟨c5,ds⟩:=zx2 bw ck;have ao:=zF A 0 rfl;have c4:=lt_of_heap A;clear a5 bx ca c0 A f hF0 al b2 b8 bw cc ck bk;obtain⟨s,a6⟩:∃s,c.length=s:=⟨_,rfl⟩;obtain⟨y,an⟩:∃y,yB [] c=y:=⟨_,rfl⟩;have e5:y<=s:=by rw[<-an,<-a6];exact dT _ _
 rw[a6]at ej a2 bs ao;have cS:=co;rw[an]at cS ⊢;clear co;have c1:=aL (P:=π) (K:=30) d;have R:Far xO d (d.alloc (.map #[] 0)):=(ξ _ d).alloc _;have ab:=a2.out.far R (λ_ _ _ e=>e);have e9:=R.heap bs.out (λe=>e);have da:=av.out 0 ac _ _ bq (R.mono (λ_ _ e=>e.elim))
 replace ao:=R.at ao id
 have dW:=a2.out;have e4:=@run_makeMap π
 go_enter func41,ntmps41
 go_wp2_with fail
 go_step3
 go_wp2_with fail
 go_step3
 go_wp2_with fail
 generalize hmb:d.heap.size=S at c1 b1 c4 ei a4 ⊢;have dl:∀k,u k->k≠S:=λk r e=>by have:=a4.out k r;omega
 clear R bq a2 bs dW hmb
 go_loopw [9] (λa9 wr=>∃(t:Nat) (i:NS),a9=.int I (t:Int)/\t<=y/\xW π 30 wr S (AN (c.take t))/\Row wr u s (Y a s df) (xV c)/\J t i wr/\(∀k,i k->k≠S/\k≠E/\¬u k)) (λa9 _=>s - (Lib.intOf a9).toNat)
 case atStart=>exact⟨0,ac,rfl,z_ _,c1,ab,da,b1.out⟩
 case round=>
  obtain⟨t,i,rfl,dp,N,f,C,ad⟩:=hrel;by_cases dC:t < s
  ·obtain⟨x,D⟩:∃x,c[t]? =W x:=⟨_,zE (by rw[a6];exact dC)⟩
   obtain⟨g,o,cap,e,bk,er,ao,es,b3⟩:=f.sc D;injection e with e1 e2 e3;subst e1 e3;have dv:=ds.out x (zL D);obtain⟨ep,bm⟩:=wN x dv;have M:=fZ c [] t x (by rw[an];exact dp) D;rw[an,List.nil_append]at M;have z:Far xO wr (wr.alloc (.cells #[.int I x.k,.int I x.n,xR x.s] 30)):=(ξ _ wr).alloc _;have F:=N.far z (λe=>e);have dg:(t:Int) < (s:Int):=by omega
   have e8:(0:Int)<=(t:Int):=by omega
   by_cases L:x∈c.take t
   ·have dj:t=y:=by
     have e6:¬t < y:=λb=>M.1 b L;omega
    have j:=F.look_in mD underlying88 (jA _) (scV x) bm false (.bool true) (List.mem_map.2 ⟨x,L,rfl⟩) (λp T _=>by obtain⟨cm,_,rfl⟩:=List.mem_map.1 T;rfl);unfold scV at j;obtain⟨m,bD⟩:∃m,xR x.s=.string m:=⟨_,rfl⟩;rw[bD]at j b3 z;simp only[Bool.false_eq_true,if_false]at j;subst dj;have b6:=av.out _ i _ _ C (z.mono (λ_ _ e=>e.elim));have bb:=zD b6;clear F N f C ad D b6 M
    go_wp2_with fail
    go_end0
    exact⟨⟨_,rfl⟩,.inl ⟨i,bb.out,trivial⟩⟩
   ·have ef:t < y:=M.2 L
    have j:=F.look_out mD underlying88 (jA _) (scV x) bm false (λp T=>by
     obtain⟨cm,H,rfl⟩:=List.mem_map.1 T;exact λe=>L (qh e ▸ H))
    have X:=λ(d:World) (b:xW π 30 d S (AN (c.take t)))=>b.put mD underlying88 (scV x) (.bool true) bm (λp T=>by
     obtain⟨cm,H,rfl⟩:=List.mem_map.1 T;exact λe=>L (qh e ▸ H))
    have cl:AN (c.take t)++[(scV x,.bool true)]=AN (c.take (t+1)):=by rw[zG,D];simp[AN]
    rw[cl]at X;unfold scV at j X;obtain⟨m,bD⟩:∃m,xR x.s=.string m:=⟨_,rfl⟩;rw[bD]at j X b3 z F;simp only[Bool.false_eq_true,if_false]at j;have ab:=f.far z (λ_ _ _ e=>e);have cv:=av.out _ i _ _ C (z.mono (λ_ _ e=>e.elim));have a1:=af wr (.cells #[.int I x.k,.int I x.n,.string m] 30);have dc:=N.lt;have cb:∀k,i k->k < wr.heap.size:=λk b=>(c5.out t i wr C).2 trivial k b;obtain⟨ek,dm,d6,ba,d0,ct⟩:=zx6 F ab cv ad X j;clear N f C ad D M F ab cv X z cl j
    go_upto_region 4 with (fail)
    refine(wpIn_wide (n:=4)).1 ?_;generalize hqe:wr.heap.size=q at a1 dc cb ⊢;have b2:q < (wr.alloc (.cells #[.int I x.k,.int I x.n,.string m] 30)).heap.size:=lt_of_heap a1;have j:=ct.out;clear ct;generalize (wr.alloc (.cells #[.int I x.k,.int I x.n,.string m] 30))=dr at *;obtain⟨db,d1,eg,_⟩:=bv a1;obtain⟨e7,eM,assign,body,H,bR⟩:=cS.out t ef i xO #[γ #[.int I x.k,.int I x.n,.string m]] dr d6.out ⟨rfl,rfl⟩ (λk b=>b.elim);have c2:=zD bR;clear bR
    gi_wp2
    refine(c2.out).mono ?_;rintro e dA ⟨a0,⟨G,a3⟩,(⟨rfl,cT⟩|⟨rfl,b4⟩)⟩
    ·have b5:=ek.out.far G (λb=>(ba.out _ b).1 rfl)
     have cf:=dm.out.far G (λk r _ b=>(ba.out k b).2.2 r);have c3:=G.heap a1 (λb=>Nat.lt_irrefl _ (cb _ b));have be:∀k,a0 k->k≠S/\k≠E/\¬u k:=by
      intro k b;rcases a3 k b with b|b|b
      ·exact ba.out k b
      ·exact b.elim
      ·exact⟨by omega,by omega,λr=>by have:=a4.out k r;omega⟩
     obtain⟨eq,ex,ch,bn⟩:=d0.out dA b5;obtain⟨db,d1,eg,_⟩:=bv c3;have b9:=cf.far bn (λk r _ e=>dl k r e);have b0:=av.out _ a0 _ _ cT (bn.mono (λk _ e=>⟨λb=>(be k b).1 e,.inr (by omega)⟩));obtain⟨d2,c9,dJ,d4⟩:=zx4 ch b9 b0 be;clear ch b9 b0 be cT a3 G bn b5 cf c3 c2 H
     gi_wp2
     go_wp2_with fail
     go_roundw
     case rel=>exact⟨t+1,a0,rfl,by omega,d2.out,c9.out,dJ.out,d4.out⟩
     case measure=>simp[Lib.intOf];omega
    ·have el:=zD b4
     clear b4 G a3
     gi_wp2
     go_wp2_with fail
     rw[Exit.noGoto_normal]
     go_end0
     exact⟨⟨_,rfl⟩,.inr ⟨a0,el.out⟩⟩
  ·have c6:t=y:=by omega
   have dg:¬(t:Int) < (s:Int):=by omega
   subst c6;have bb:=zD C;clear N f C ad
   go_wp2_with fail
   go_end0
   exact⟨⟨_,rfl⟩,.inl ⟨i,bb.out,trivial⟩⟩
end
section
attribute [local go_sem] ak
attribute [local go_sem] Oper.semAt_some
theorem rI(a:List Tp.Sc):decide (yB [] a < a.length)=Tp.twice a:=by
 have b:=eI a [] List.nodup_nil;have f:=dT a [];rw[List.nil_append]at b;have e:∀l:List Tp.Sc,Tp.twice l=false↔l.Nodup:=by
  intro l;induction l with
  |nil=>simp[Tp.twice]
  |cons x r ih=>simp[Tp.twice,ih]
 cases c:Tp.twice a with
 |false=>rw[decide_eq_false];have:=b.2 ((e a).1 c);omega
 |true=>
  rw[decide_eq_true];rcases Nat.lt_or_ge (yB [] a) a.length with d|d
  ·exact d
  ·rw[(e a).2 (b.1 (by omega))]at c;cases c
def CtI(w:World)(q b t:Nat)(c:NS)(a:World):Prop:=c=(·=q)/\t<=b/\a.heap[q]? =W (J #[V I (t:Int)] 3 (0,0))/\Below w.heap.size w a
theorem jI(b:List Tp.Sc)(v:Value)(j:NS)(w:World)(a1:∀x∈b,AO x)(P:Row w j b.length v (xV b))(A:∀k,j k->k < w.heap.size):Calls π 9 #[v] w λe w'=>e=ρ (β (Tp.twice b))/\Below w.heap.size w w':=by
 rw[<-rI];obtain⟨a,f,rfl,an⟩:=P.form;have av:=dT b [];have a6:=rH (Y a b.length f) ⟨_,_,_,rfl⟩;obtain⟨q,y⟩:∃q,w.heap.size=q:=⟨_,rfl⟩;have F:Below w.heap.size w ((w.alloc (J #[V I 0] 3)).alloc (J #[Y a b.length f] 28)):=((ζ _ w).alloc (η _) _).alloc (by simp) _;have R:((w.alloc (J #[V I 0] 3)).alloc (J #[Y a b.length f] 28)).heap[q+1]? =W (J #[Y a b.length f] 28 (0,0)):=ah _ _ _ (by simp[y]);have M:((w.alloc (J #[V I 0] 3)).alloc (J #[Y a b.length f] 28)).heap[q]? =W (J #[V I 0] 3 (0,0)):=by rw[<-y];exact aa _ (af w _)
 have ab:=P.below F;have ad:=pk b _ j (q+1) _ a1 (λk H=>by have:=A k H;simp;omega) ab R;have a2:((w.alloc (J #[V I 0] 3)).alloc (J #[Y a b.length f] 28)).heap.size=q+2:=by simp[y]
 have b3:b.length<=9223372036854775807:=an;have S:∀k,j k->k < q:=λk H=>y ▸ A k H;obtain⟨L,N,ac⟩:=zx3 a6 ad F;clear a6 ad P ab a1 F an A;obtain⟨g,bb⟩:∃g,b.length=g:=⟨_,rfl⟩;obtain⟨d,a0⟩:∃d,yB [] b=d:=⟨_,rfl⟩;rw[bb]at b3 L N ac M R a2 av ⊢;rw[a0]at N av ⊢;clear bb a0;refine callsIn_wide.1 (callsIn_of_wp_marks (n:=5) func9 rfl trivial (wpIn_wide.2 ?_));simp only[ntmps9,List.size_toArray,zO,List.length_nil,Nat.reduceAdd,Nat.reduceSub,Array.replicate_succ,Array.replicate_zero,List.push_toArray,List.append_toArray,List.nil_append,List.cons_append]
 go_wp2_with fail
 refine(L.out _).mono ?_;rintro e cb ⟨rfl,rfl⟩;have bm:(w.alloc (J #[V I 0] 3)).heap.size=q+1:=by simp[y]
 rw[bm];generalize ((w.alloc (J #[V I 0] 3)).alloc (J #[Y a g f] 28))=b5 at *
 go_wp2_with fail
 have b6:RowKit.Hid (CtI w q d 0 (·=q) b5):=zD ⟨rfl,z_ _,M,ac.out⟩;have G:=zD a2;have ca:=R;clear M L;refine wpIn_wide.1 (aC (n:=5) (gf:=41) (lb:=#[Z (W ⟨q+1,0,O⟩)]) rfl (λargs wx=>ue args wx)
  N.out (λk e=>e.elim) (λk e=>by rcases e with rfl|e;omega;have:=S k e;omega) (λt v j r c=>by simp[c.1])
  (CtI w q d) (λ_ _ _=>False) (·=q) (λk c=>?hF0) b6.out ?hI (λ_ _ _ _ c _=>c) (λ_ _ _ _=>trivial) (λ_ _ _ _=>trivial) ?round ?done (λ_ _ _ c=>c.elim))
 case hF0=>
  subst c;exact⟨λe=>e.elim,λe=>by rcases e with e|e;omega;have:=S k e;omega,by omega,by omega,λ_=>by omega⟩
 case hI=>
  rintro t T r a5 ⟨rfl,b2,bx,X⟩ al;exact⟨rfl,b2,al.heap bx (λe=>e.1 rfl),X.trans (al.to_below X.size (λi a4 e=>by have:=G.out;rcases e.2 with c|c;exact c;omega))⟩
 case round=>
  rintro t T j v r K be b9 ⟨rfl,bw,z,m⟩ ⟨bR,rfl⟩ A bq o;obtain⟨E,rfl⟩:∃E,v=#[E]:=by
   obtain⟨l⟩:=v
   match l,bR with
   | [E],_=>exact⟨E,rfl⟩
  gi_wp2
  refine o _ _ (ξ _ _) ?_;intro u C _ _;rw[G.out]at C;have s:=C.heap z (by omega);have a9:Below w.heap.size w u:=m.trans (C.to_below m.size (λi a4 e=>by omega));have b1:=zF s 0 rfl;have b8:=ag s 0;have a3:CtI w q d (t+1) (·=q) (u.setCell ⟨q,0,O⟩ (V I ((t:Int)+1))):=⟨rfl,be,by have:=ai s 0 (V I ((t:Int)+1));simpa using this,a9.setCell (by show w.heap.size<=q;omega) _⟩;have ao:Far (·=q) u (u.setCell ⟨q,0,O⟩ (V I ((t:Int)+1))):=Far.setCell (D:=(·=q)) (ξ _ _) (p:=⟨q,0,O⟩) (λ_=>rfl) _;obtain⟨bD,bn⟩:=zx2 a3 ao;have b4:RowKit.Hid (q < (u.setCell ⟨q,0,O⟩ (V I ((t:Int)+1))).heap.size):=zD (lt_of_heap (ai s 0 _));clear z m s a9 C o a3 ao
  gi_wp2_with fail
  exact⟨_,bD.out,bn.out,λk c=>⟨.inl c,λ_=>by subst c;exact b4.out⟩⟩
 case done=>
  rintro T r ⟨rfl,bw,z,m⟩ _ o bq;rw[G.out]at o ⊢;have b1:=zF z 0 rfl;have b0:=λr=>wG (d:Int) (g:Int) r;rw[show decide ((d:Int) < (g:Int))=decide (d < g)by rw[decide_eq_decide];omega]at b0;obtain⟨ba,bs⟩:=zx2 m o;clear z m o
  go_wp2_with fail
  refine au (q:=q+2) rfl bs.out ?_;intro a5 bk;refine⟨β (decide (d < g)),by simp[results,results9,go_sem],rfl,?_⟩;exact(show Below w.heap.size w a5 from ba.out.trans (bk.to_below ba.out.size (λi a4 e=>by omega))).mono (by omega)
end
end Go.Proofs.YtbikgdhbiebhcaaGreatDoor
