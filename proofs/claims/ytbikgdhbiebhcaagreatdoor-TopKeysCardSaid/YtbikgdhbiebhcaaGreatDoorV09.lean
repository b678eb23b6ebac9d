/- Part 9. -/
import Derived.Test.YtbikgdhbiebhcaaGreatDoorV08
set_option linter.unusedVariables false
set_option linter.unusedSimpArgs false
set_option maxRecDepth 100000
set_option maxHeartbeats 2000000
open Go.Value renaming int -> V, string -> U, slice -> Y, pointer -> Z, func -> φ, agg -> γ, bool -> β
open Go.IntKind renaming i64 -> I
open Option renaming some -> W, none -> O
open Go.Obj renaming cells -> J
open Go.Ending renaming returned -> ρ
open Go.Proofs.Tryz renaming prog -> π
open Nat renaming le_refl -> η
open And renaming intro -> θ
open Go.RowKit.Below renaming refl -> ζ
namespace Go.Proofs.YtbikgdhbiebhcaaGreatDoor
open Go.RowKit Tryz
section
attribute [local go_sem] ak
theorem vg(a:Nat)(w:World):Calls π 176 #[Z (W ⟨a,0,O⟩)] w λe w'=>e=ρ (φ (.func 218) #[] #[Z (W ⟨w.heap.size,0,O⟩)])/\w'=w.alloc (J #[Z (W ⟨a,0,O⟩)] 266):=by
 go_enter func176,ntmps176
 go_wp2
 go_ret
 exact⟨rfl,rfl⟩
theorem sf(args:Array Value)(w:World):(callFunc 218 args).run π w=.ok (.enter 218 args) w:=by kernel_rfl
def Ba(d:List Nat)(t:Nat)(b:Array Value)(c:NS)(_:World):Prop:=(∃(i:Int) (a:Nat),d[t]? =W a/\b=#[γ #[V I i,V I (a:Int)]])/\c=xO
theorem vI(g:List Tp.Nd)(i j b:Nat)(x:Tp.Nd)(d:g[i]? =W x)(a:x.kids[j]? =W b):(g.flatMap (·.kids))[((g.take i).flatMap (·.kids)).length+j]? =W b:=by
 have c:=aE g i x d;have e:g.flatMap (·.kids)=(g.take i).flatMap (·.kids)++(x.kids++(g.drop (i+1)).flatMap (·.kids)):=by
  conv=>lhs;rw[<-List.take_append_drop i g,c]
  simp
 rw[e,zV (by omega),Nat.add_sub_cancel_left,List.getElem?_append_left (zM.1 a).1];exact a
theorem rL(g:List Tp.Nd)(i:Nat)(x:Tp.Nd)(a:g[i]? =W x):((g.take (i+1)).flatMap (·.kids)).length=((g.take i).flatMap (·.kids)).length+x.kids.length:=by
 rw[zG,a];simp
theorem tB(g:List Tp.Nd)(v:Value)(t:NS)(u y:Nat)(an:Value)(w:World)(d:yc w t g v)(bR:∀k,t k->k < w.heap.size)(c:w.heap[u]? =W (.cells #[V I 0,v,an] 337 (0,0)))(f:w.heap[y]? =W (.cells #[Z (W ⟨u,0,O⟩)] 266 (0,0))):
 yQ π 218 #[Z (W ⟨y,0,O⟩)] 3 (g.flatMap (·.kids)).length (Ba (g.flatMap (·.kids))) xO (λk=>k=y\/k=u\/t k) False (λ_ _=>True) (λ_=>True) w:=by
 intro l J d4 bn P M cf hF0 ao ca dv bs dl;have ch:RowKit.Hid (∀k,t k->k < P.heap.size):=zD (λk D=>by have:=bR k D;have:=M.size;omega)
 replace f:=(M.block _ (lt_of_heap f)).trans f
 replace c:=(M.block _ (lt_of_heap c)).trans c
 replace d:=d.below M
 obtain⟨base,bq⟩:∃c2,w.heap.size=c2:=⟨_,rfl⟩;rw[bq]at ao ca;have b9:∀k,bn k->k≠y/\k≠u/\¬t k:=λk b=>⟨λe=>(hF0 k b).2 (.inl e),λe=>(hF0 k b).2 (.inr (.inl e)),λe=>(hF0 k b).2 (.inr (.inr e))⟩;obtain⟨a,S,rfl,bw⟩:=d.form;have dA:g.length<=9223372036854775807:=bw;obtain⟨di,da,cc⟩:=zx3 ao bs b9;have e6:=zF f 0 rfl;have c0:=zF c 1 rfl;obtain⟨q,ba⟩:∃q,g.length=q:=⟨_,rfl⟩;rw[ba]at dA c0 d c;obtain⟨dn,dC,dJ⟩:=zx3 f c d;have fc:=η P.heap.size;clear ao ca bs b9 f c d hF0 M cf bq dv bw bR
 go_enter func218,ntmps218
 go_wp2_with fail
 go_step3
 go_wp2_with fail
 go_step3
 go_wp2_with fail
 go_loopw [13] (λs wr=>∃(i:Nat) (m:NS),s=V I (i:Int)/\i<=q/\yc wr t g (Y a q S)/\wr.heap[y]? =W (.cells #[Z (W ⟨u,0,O⟩)] 266 (0,0))/\wr.heap[u]? =W (.cells #[V I 0,Y a q S,an] 337 (0,0))/\J ((g.take i).flatMap (·.kids)).length m wr/\(∀k,m k->k≠y/\k≠u/\¬t k)/\P.heap.size<=wr.heap.size) (λs _=>q - (Lib.intOf s).toNat)
 case atStart=>exact⟨0,bn,rfl,z_ _,dJ.out,dn.out,dC.out,by simpa using dl,cc.out,η _⟩
 case round=>
  obtain⟨i,m,rfl,er,d,f,c,r,A,eM⟩:=hrel;by_cases dg:i < q
  ·obtain⟨x,R⟩:∃x,g[i]? =W x:=⟨_,zE (by rw[ba];exact dg)⟩
   obtain⟨kv,e0,H⟩:=d.at R;rw[ba]at H;obtain⟨bm,o,cap,e,ft,d6,es,ex,c4,e9,cm⟩:=H.cells;injection e with e1 a4 e3;clear a4;subst e1 e3;have z:=H.kid;obtain⟨a2,a9,rfl,_⟩:=H.key.form;obtain⟨ad,N,rfl,dj⟩:=H.kid.form;have c5:x.kids.length<=9223372036854775807:=dj;obtain⟨p,a3⟩:∃p,x.kids.length=p:=⟨_,rfl⟩;rw[a3]at z cm c5;obtain⟨L,d0⟩:∃L,xR x.x.s=U L:=⟨_,rfl⟩;rw[d0]at c4;have cl:(i:Int) < (q:Int):=by omega
   have e7:(0:Int)<=(i:Int):=by omega
   have C:Far xO wr (wr.alloc (.cells #[V I x.k,V I x.x.k,V I x.x.n,U L,Y a2 x.keys.length a9,Y ad p N] 185)):=(ξ _ wr).alloc _;obtain⟨ef,e4,fn,ep,d5,ei,_⟩:=pE (af wr (.cells #[V I x.k,V I x.x.k,V I x.x.n,U L,Y a2 x.keys.length a9,Y ad p N] 185));have b5:=di.out _ m _ _ r (C.mono (λ_ _ e=>e.elim));have c1:=zD (d.far C (λ_ _ _ e=>e));have db:=zD (C.heap f id);have cv:=zD (C.heap c id);obtain⟨b6,cS⟩:=zx2 b5 A;have cb:=zD (z.far C (λ_ _ _ e=>e));have d3:=C.size;have dm:=zD (vI g i);have dW:=zD (rL g i x R);have d2:=zD R;obtain⟨T,av⟩:∃T,((g.take i).flatMap (·.kids)).length=T:=⟨_,rfl⟩;obtain⟨b4,b1⟩:=zx2 av a3;rw[av]at b6;clear d f c r A R b5 C H z av a3
   go_upto_region 3 with (fail)
   generalize (wr.alloc (.cells #[V I x.k,V I x.x.k,V I x.x.n,U L,Y a2 x.keys.length a9,Y ad p N] 185))=en at *
   go_wp2_with fail
   go_loopw [21] (λs G=>∃(j:Nat) (m:NS),s=V I (j:Int)/\j<=p/\yc G t g (Y (W ⟨bm,o,O⟩) q S)/\G.heap[y]? =W (.cells #[Z (W ⟨u,0,O⟩)] 266 (0,0))/\G.heap[u]? =W (.cells #[V I 0,Y (W ⟨bm,o,O⟩) q S,an] 337 (0,0))/\Row G t p (Y ad p N) (xP x.kids)/\J (T+j) m G/\(∀k,m k->k≠y/\k≠u/\¬t k)/\P.heap.size<=G.heap.size) (λs _=>p - (Lib.intOf s).toNat)
   case atStart=>exact⟨0,m,rfl,z_ _,c1.out,db.out,cv.out,cb.out,b6.out,cS.out,by omega⟩
   case round=>
    obtain⟨j,m,rfl,e2,d,f,c,z,r,A,ct⟩:=hrel;by_cases ck:j < p
    ·obtain⟨bx,a5⟩:∃k,x.kids[j]? =W k:=⟨_,zE (by rw[b1.out];exact ck)⟩
     obtain⟨fl,ek,fr,a4,_,_,e8⟩:=z.nat a5;injection a4 with e21 e22 e23;subst e21 e23;have X:=dm.out j bx x d2.out a5;rw[b4.out]at X;have be:=(zM.1 X).1;have co:(j:Int) < (p:Int):=by omega
     have eg:(0:Int)<=(j:Int):=by omega
     have b3:=da.out (T+j) be m xO #[γ #[V I (i:Int),V I (bx:Int)]] _ r ⟨⟨_,_,X,rfl⟩,rfl⟩ (λk b=>b.elim);obtain⟨cT,a0,ac,ab,c9,F⟩:=zx6 b3 d f c z A;clear d f c z r A a5 X be b3
     go_upto_region 6 with (fail)
     refine(wpIn_wide (n:=4)).1 ?_;obtain⟨fs,e5,assign,body,el,bb⟩:=cT.out;have dr:=zD bb;clear bb
     gi_wp2
     refine(dr.out).mono ?_;rintro e eq ⟨a6,⟨E,al⟩,(⟨rfl,b8⟩|⟨rfl,bk⟩)⟩
     ·have ej:=E.size
      have bD:∀k,a6 k->k≠y/\k≠u/\¬t k:=by
       intro k b;rcases al k b with b|b|b
       ·exact F.out k b
       ·exact b.elim
       ·exact⟨by have:=lt_of_heap ac.out;omega,by have:=lt_of_heap ab.out;omega,λD=>by have:=ch.out k D;omega⟩
      have ds:=zD (a0.out.far E (λk D _ b=>(F.out k b).2.2 D));have dp:=zD (E.heap ac.out (λb=>(F.out _ b).1 rfl));have c6:=zD (E.heap ab.out (λb=>(F.out _ b).2.1 rfl));have dc:=zD (c9.out.far E (λk D _ b=>(F.out k b).2.2 D));obtain⟨d1,df⟩:=zx2 b8 bD;clear b8 bD al E
      gi_wp2
      go_wp2_with fail
      go_roundw
      case rel=>exact⟨j+1,a6,rfl,by omega,ds.out,dp.out,c6.out,dc.out,d1.out,df.out,by omega⟩
      case measure=>simp[Lib.intOf];omega
     ·have c3:=zD bk
      clear bk E al
      gi_wp2
      go_wp2_with fail
      try rw[Exit.noGoto_normal]
      go_end0
      exact⟨⟨_,rfl⟩,.inr ⟨a6,c3.out⟩⟩
    ·obtain rfl:j=p:=by omega
     have co:¬(j:Int) < (j:Int):=by omega
     have b2:((g.take (i+1)).flatMap (·.kids)).length=T+j:=by rw[dW.out,b4.out,b1.out]
     rw[<-b2]at r;obtain⟨a1,a0,ac,ab,F⟩:=zx5 r d f c A;clear d f c z r A b2
     go_wp2_with fail
     go_roundw
     case rel=>exact⟨i+1,m,rfl,by omega,a0.out,ac.out,ab.out,a1.out,F.out,ct⟩
     case measure=>simp[Lib.intOf];omega
  ·obtain rfl:i=q:=by omega
   have cl:¬(i:Int) < (i:Int):=by omega
   rw[zR (by omega)]at r;have a1:=zD r;clear d f c r A
   go_wp2_with fail
   go_end0
   exact⟨⟨_,rfl⟩,.inl ⟨m,a1.out,trivial⟩⟩
end
section
attribute [local go_sem] ak
attribute [local go_sem] Oper.semAt_some
def zl(a:List Nat)(b t:Nat):List Nat:=(List.range b).map λi=>(a.take t).count i+(if i=0 then 1 else 0)
theorem bC(b:List Nat)(a t:Nat):(zl b a t).length=a:=by simp[zl]
theorem jt(b:List Nat)(a t i:Nat)(c:i < a):(zl b a t)[i]? =W ((b.take t).count i+(if i=0 then 1 else 0)):=by simp[zl,c]
theorem sB(d:List Nat)(a:Nat):zl d a 0=(List.replicate a 0).set 0 1:=by
 apply List.ext_getElem?
 intro i;by_cases c:i < a
 ·rw[jt d a 0 i c]
  by_cases b:i=0
  ·subst b;simp[c]
  ·rw[List.getElem?_set_ne (λe=>b e.symm),List.getElem?_replicate,if_pos c];simp[b]
 ·rw[List.getElem?_eq_none (by rw[bC];omega),List.getElem?_eq_none (by simp;omega)]
theorem sC(b:List Nat)(a t k:Nat)(e:b[t]? =W k)(f:k < a):zl b a (t+1)=(zl b a t).set k ((b.take t).count k+(if k=0 then 1 else 0)+1):=by
 apply List.ext_getElem?
 intro i;by_cases d:i < a
 ·rw[jt b a (t+1) i d,zG,e,List.count_append]
  by_cases c:k=i
  ·subst c
   rw[List.getElem?_set_self (by rw[bC];exact d)];simp
   omega
  ·rw[List.getElem?_set_ne c,jt b a t i d]
   simp[c]
 ·rw[List.getElem?_eq_none (by rw[bC];omega),List.getElem?_eq_none (by rw[List.length_set,bC];omega)]
structure UsI(w:World)(q cb nb N:Nat)(kf:List Nat)(v:Value)(t:Nat)(F:NS)(W:World):Prop where
 fr:F=(·=nb)
 le:t<=kf.length
 box:W.heap[q]? =some (J #[Z (some ⟨cb,0,O⟩)] 266 (0,0))
 ct:zd W cb nb v (zl kf N t)
 far:Far (·=nb) w W
theorem m7(g:List Tp.Nd)(v:Value)(av:NS)(f b:Nat)(w:World)(a1:yc w av g v)(ct:∀k,av k->k < w.heap.size/\k≠b)(ca:0 < g.length)(da:g.length<=200)(a0:(g.flatMap (·.kids)).length<=100000000/\∀k∈g.flatMap (·.kids),k < g.length)(o:zd w f b v (List.replicate g.length 0)):
 Calls π 129 #[Z (W ⟨f,0,O⟩)] w λe w'=>e=ρ (Y (W ⟨b,0,O⟩) g.length g.length)/\zd w' f b v ((List.range g.length).map (Tp.uses g))/\Far (·=b) w w':=by
 have E:(List.range g.length).map (Tp.uses g)=zl (g.flatMap (·.kids)) g.length (g.flatMap (·.kids)).length:=by
  unfold zl Tp.uses;rw[List.take_length]
 obtain⟨r,b4⟩:∃k,g.flatMap (·.kids)=k:=⟨_,rfl⟩;rw[b4]at E a0;rw[E];obtain⟨a,M,rfl,_⟩:=a1.form;obtain⟨q,b2⟩:∃q,w.heap.size=q:=⟨_,rfl⟩;obtain⟨d,c2⟩:∃d,g.length=d:=⟨_,rfl⟩;have c0:=a1;rw[c2]at o a1 ca da a0 ⊢;have c9:=lt_of_heap o.blk;have dp:=o.num.lt;have d1:w.cell? ⟨b,0,O⟩=W (V I 0):=o.num.cell (by unfold xP;rw[List.getElem?_map,List.getElem?_replicate,if_pos ca];rfl);have d0:=o.num.frozen 0;obtain⟨a9,bD,C,_⟩:=bv o.blk;rw[List.length_replicate]at C;have s:Far (·=b) w (w.setCell ⟨b,0,O⟩ (V I 1)):=Far.setCell (D:=(·=b)) (ξ _ _) (p:=⟨b,0,O⟩) (λ_=>rfl) _;have A:=aQ o.num 0 (V I 1);have R:(xP (List.replicate d 0)).set 0 (V I 1)=xP (zl r d 0):=by rw[sB];unfold xP;rw[List.map_set];rfl
 rw[R]at A;have ch:zd (w.setCell ⟨b,0,O⟩ (V I 1)) f b (Y a d M) (zl r d 0):=⟨by rw[bC];have:=s.heap o.blk (λe=>o.ne e.symm);rw[List.length_replicate]at this;exact this,A,o.ne⟩;have a3:Far xO (w.setCell ⟨b,0,O⟩ (V I 1)) ((w.setCell ⟨b,0,O⟩ (V I 1)).alloc (J #[Z (W ⟨f,0,O⟩)] 266)):=(ξ _ _).alloc _;have cb:=ch.far a3 id id;have cv:(w.setCell ⟨b,0,O⟩ (V I 1)).heap.size=q:=by simp[World.setCell,b2]
 have bn:=af (w.setCell ⟨b,0,O⟩ (V I 1)) (J #[Z (W ⟨f,0,O⟩)] 266);rw[cv]at bn;have c1:Far (·=b) w ((w.setCell ⟨b,0,O⟩ (V I 1)).alloc (J #[Z (W ⟨f,0,O⟩)] 266)):=s.step a3 (λ_ _ e=>e.elim);have L:((w.setCell ⟨b,0,O⟩ (V I 1)).alloc (J #[Z (W ⟨f,0,O⟩)] 266)).heap.size=q+1:=by simp[cv]
 rw[b2]at c9 dp;have co:=vg f;obtain⟨bk,b0,ba,dc,a6,ab⟩:=zx6 cb bn c1 c0 ct b2;obtain⟨ck,cT,dr⟩:=zx3 co a0 b4;clear a1 o a3 ch s A R cb bn c1 c0 co a0 E ct b4;refine callsIn_wide.1 (callsIn_of_wp_marks (n:=5) func129 rfl trivial (wpIn_wide.2 ?_));simp only[ntmps129,List.size_toArray,zO,List.length_nil,Nat.reduceAdd,Nat.reduceSub,Array.replicate_succ,Array.replicate_zero,List.push_toArray,List.append_toArray,List.nil_append,List.cons_append]
 go_upto_region 2 with (fail)
 generalize ((w.setCell ⟨b,0,O⟩ (V I 1)).alloc (J #[Z (W ⟨f,0,O⟩)] 266))=x at *;clear d1 d0 a9 bD C;have ac:=zF b0.out 0 rfl
 go_wp2_with fail
 refine(ck.out x).mono ?_;rintro e en ⟨rfl,rfl⟩;rw[L];have P:Far xO x (x.alloc (J #[Z (W ⟨f,0,O⟩)] 266)):=(ξ _ x).alloc _;have cl:(x.alloc (J #[Z (W ⟨f,0,O⟩)] 266)).heap[q+1]? =W (J #[Z (W ⟨f,0,O⟩)] 266 (0,0)):=ah _ _ _ L.symm;have bs:∀k,av k->k < q:=λk z=>by have:=(a6.out k z).1;have:=ab.out;omega
 have a5:=(dc.out.far ba.out (λk z _ e=>(a6.out k z).2 e)).far P (λ_ _ _ e=>e);have bx:=bk.out.far P id id;have bq:=tB g (Y a d M) av f (q+1) _ _ (by rw[c2]at a5;exact a5) (λk z=>by have:=bs k z;simp[L];omega) bx.blk cl;rw[dr.out]at bq;have d3:RowKit.Hid (UsI w q f b d r (Y a d M) 0 (·=b) (x.alloc (J #[Z (W ⟨f,0,O⟩)] 266))):=zD ⟨rfl,z_ _,P.heap b0.out id,bx,ba.out.step P (λ_ _ e=>e.elim)⟩;have b9:(x.alloc (J #[Z (W ⟨f,0,O⟩)] 266)).heap.size=q+2:=by simp[L]
 obtain⟨di,N,dn⟩:=zx3 bq b9 bs;have a4:=bk.out.ne;clear P cl bs a5 bx bq b9 bk b0 ba ck ac L;generalize (x.alloc (J #[Z (W ⟨f,0,O⟩)] 266))=dA at *
 go_wp2_with fail
 refine wpIn_wide.1 (aC (n:=5) (gf:=218) (lb:=#[Z (W ⟨q+1,0,O⟩)]) rfl (λargs wx=>sf args wx)
  di.out (λk e=>e.elim) (λk e=>by have:=N.out;rcases e with rfl|rfl|e;omega;omega;have:=dn.out k e;omega) (λt v dg m c=>by obtain⟨⟨_,_,_,rfl⟩,_⟩:=c;rfl)
  (UsI w q f b d r (Y a d M)) (λ_ _ _=>False) (·=b) (λk c=>?hF0) d3.out ?hI (λ_ _ _ _ c _=>c) (λ_ _ _ _=>trivial) (λ_ _ _ _=>trivial) ?round ?done (λ_ _ _ c=>c.elim))
 case hF0=>
  subst c;have:=N.out;exact⟨λe=>e,λe=>by rcases e with e|e|e;omega;exact a4 e;exact(a6.out _ e).2 rfl,by omega,by omega,λc=>c.elim⟩
 case hI=>
  rintro t b8 m dC ⟨rfl,b3,cm,c5,dm⟩ bw;have ad:∀i,i < q+2->¬y8 xO (·=b) dA.heap.size i:=λi dv e=>by have:=N.out;rcases e.2 with c|c;exact c;omega
  exact⟨rfl,b3,bw.heap cm (ad _ (by omega)),c5.far bw (ad _ (by omega)) (ad _ (by omega)),dm.step bw (λi dv e=>absurd e (ad i (by have:=ab.out;omega)))⟩
 case round=>
  rintro t b8 dg ej m K c3 db ⟨rfl,dl,S,F,H⟩ ⟨⟨cf,j,b1,rfl⟩,rfl⟩ c6 cc u;have bR:=N.out;rw[bR]at db;have cS:=cT.out.2 j (zL b1)
  gi_wp2
  refine u _ _ ((ξ _ m).alloc _) ?_;intro y al _ _;rw[bR]at al;have dW:¬q=q+2+1:=by omega
  have an:Far (·=q+2+1) m y:=((ξ xO m).alloc (J #[V I cf,V I (j:Int)] 344) |>.mono (λ_ _ e=>e.elim)).trans al;have bb:=an.heap S dW;have G:=F.far an (by omega) (by omega);have b5:=H.step an (λk z e=>by have:=ab.out;omega);have be:=al.heap (af m (J #[V I cf,V I (j:Int)] 344)) (by omega);generalize hp:m.heap.size=p at be ⊢;obtain⟨X,T⟩:∃X,(r.take t).count j+(if j=0 then 1 else 0)=X:=⟨_,rfl⟩;have ek:X<=100000001:=by
   have b3:=List.count_le_length (a:=j) (l:=r.take t);have cm:=cT.out.1;rw[List.length_take]at b3;rw[<-T];split<;>omega
  have dJ:y.cell? ⟨b,j,O⟩=W (V I (X:Int)):=G.num.cell (by unfold xP;rw[List.getElem?_map,jt r d t j cS,T];rfl);have ef:=G.num.frozen j;have ac:=zF bb 0 rfl;obtain⟨a9,bD,C,_⟩:=bv G.blk;rw[bC]at C;obtain⟨ei,df,_⟩:=bO be;have el:(0:Int)<=(j:Int):=by omega
  have d6:(j:Int) < (d:Int):=by omega
  have bm:=sC r d t j b1 cS;rw[T]at bm;have s:Far (·=b) y (y.setCell ⟨b,j,O⟩ (V I ((X:Int)+1))):=Far.setCell (D:=(·=b)) (ξ _ _) (p:=⟨b,j,O⟩) (λ_=>rfl) _;have A:=aQ G.num j (V I ((X:Int)+1));have R:(xP (zl r d t)).set j (V I ((X:Int)+1))=xP (zl r d (t+1)):=by rw[bm];unfold xP;rw[List.map_set];rfl
  rw[R]at A;have E:UsI w q f b d r (Y a d M) (t+1) (·=b) (y.setCell ⟨b,j,O⟩ (V I ((X:Int)+1))):=⟨rfl,c3,s.heap bb (by omega),⟨by rw[bC];have:=s.heap G.blk (λe=>a4 e.symm);rw[bC]at this;exact this,A,a4⟩,b5.step s (λ_ _ e=>e)⟩;obtain⟨ds,d2⟩:=zx2 E s;have d5:IntKind.i64.wrap ((X:Int)+1)=(X:Int)+1:=zU _ (by omega);clear S F H bb G b5 al u be b1 cc c6 bm s A R E an T hp;rw[bR]
  gi_wp2_with (fail)
  refine aN (λm=>m.cell? ⟨q,0,O⟩=W (Z (W ⟨f,0,O⟩))/\m.cell? ⟨f,2,O⟩=W (Y (W ⟨b,0,O⟩) d d)/\m.cell? ⟨p,1,O⟩=W (V I (j:Int))/\m.cell? ⟨b,j,O⟩=W (V I (X:Int))) [10] (by kernel_rfl) (by kernel_rfl) (λc=>by obtain⟨_,_,c⟩:=c;exact c) ?_;refine aJ (by kernel_rfl) (λ_ _ _ _ c=>c) ⟨ac,C,df,dJ⟩ 1 [0,1,2,3,4,5,6,7,8,9] _ _ (by kernel_rfl) ?_;iterate 10 (refine Ei ?_;(try go_frame))
  refine xT.done ?_;try dsimp only
  refine aq [10] ?_;refine aj rfl (λK u=>?_) xQ.nil
  go_simp
  refine u.out _ _ (λc=>absurd (by simp) c) ?_;clear u K
  (try go_frame)
  refine aP (by kernel_rfl) ?_ _;have a2:Far xO (y.setCell ⟨b,j,O⟩ (V I ((X:Int)+1))) (y.setCell ⟨b,j,O⟩ (V I ((X:Int)+1))).drew:=(ξ _ _).drew;have ao:=ds.out;exact⟨_,⟨rfl,ao.le,a2.heap ao.box id,ao.ct.far a2 id id,ao.far.step a2 (λ_ _ e=>e.elim)⟩,d2.out.step a2 (λ_ _ e=>e.elim),λk c=>⟨.inl c,λc=>c.elim⟩⟩
 case done=>
  rintro b8 m ⟨rfl,dl,S,F,H⟩ _ u cc;rw[N.out]at u ⊢;have ac:=zF S 0 rfl;obtain⟨a9,bD,C,_⟩:=bv F.blk;rw[bC]at C;obtain⟨d4,c4,dj⟩:=zx3 F H u;clear S F H u
  go_wp2_with fail
  refine au (q:=q+2) rfl dj.out ?_;intro dC b6;have eg:=ab.out;refine⟨Y (W ⟨b,0,O⟩) d d,by simp[results,results129,go_sem],rfl,?_,c4.out.step b6 (λk z e=>by omega)⟩;exact d4.out.far b6 (by omega) (by omega)
end
section
attribute [local go_sem] ak
theorem ku(w:World):Calls π 175 #[] w λe w'=>e=ρ (γ #[β false,β true,β true])/\Far xO w w':=by
 go_enter func175,ntmps175
 go_wp2_with fail
 exact bodyPost_ret (v:=γ #[β false,β true,β true]) (by
  have a:=af w (J #[β false,β true,β true] 338);have b:=run_loadVar_row (P:=π) _ w.heap.size 338 338 #[β false,β true,β true] (0,0) _ a underlying338 rfl (by kernel_rfl);have c:f175.results=#[ResultVar.cell 0 338]:=rfl;simp[results,c,asAddr,b,Sem.run_bind,Result.andThen]) rfl ⟨rfl,(ξ _ w).alloc _⟩
theorem wD(x:Tp.Nd)(n:Nat)(a:Tp.okNd n x=true):0<=x.k/\x.k<=2:=by
 unfold Tp.okNd at a;by_cases c:x.k=0
 ·omega
 ·by_cases b:x.k=1
  ·omega
  ·rw[if_neg c,if_neg b]at a
   simp only[zQ,beq_iff_eq]at a;omega
theorem ph(g:List Tp.Nd)(v:Value)(a6:NS)(T al i m:Nat)(ac:List Nat)(x:Tp.Nd)(w:World)(X:yc w a6 g v)(E:g[i]? =W x)(G:zd w T al v ac)(bx:0<=x.k/\x.k<=2):
 Calls π 128 #[Z (W ⟨T,0,O⟩),V I (i:Int),V I (m:Int)] w λe w'=>e=ρ (β ((x.k==1||x.k==2)&&!x.kids.isEmpty&&decide (1 < m)))/\Far xO w w':=by
 obtain⟨kv,bR,c⟩:=X.at E;obtain⟨bw,o,cap,rfl,b6,a9,a4,an,c3,c4,c5⟩:=c.cells;have b5:=c.lt;obtain⟨t,A,rfl,_⟩:=c.key.form;obtain⟨y,l,rfl,_⟩:=c.kid.form;obtain⟨b,ab⟩:∃b,xR x.x.s=U b:=⟨_,rfl⟩;rw[ab]at c3;obtain⟨ao,a5,ba,_⟩:=bv G.blk;have b3:(0:Int)<=(i:Int):=by omega
 have bq:(i:Int) < (g.length:Int):=by omega
 have N:x.kids.isEmpty=decide (x.kids.length=0):=by cases x.kids<;>simp
 rw[N];generalize x.k=K at *;generalize x.x.k=r at *;generalize x.x.n=s at *;generalize x.keys.length=p at *;generalize x.kids.length=d at *;generalize g.length=b1 at *;clear X E G c ab N;obtain⟨q,R⟩:∃q,w.heap.size=q:=⟨_,rfl⟩;have f:=af w (J #[V I K,V I r,V I s,U b,Y t p A,Y y d l] 185);have C:Far xO w (w.alloc (J #[V I K,V I r,V I s,U b,Y t p A,Y y d l] 185)):=(ξ _ w).alloc _;rw[R]at f;obtain⟨n,a1,be,ad,bk,a2,_⟩:=pE f;obtain⟨S,H⟩:=zx2 f C;clear f C;have bb:K=0\/K=1\/K=2:=by omega
 have P:∀a,(Instr.index 338 (γ #[β false,β true,β true]) (V I K)).run π a=.ok (β (K==1||K==2)) a:=by
  intro a;rcases bb with rfl|rfl|rfl<;>kernel_rfl
 generalize hA:(K==1||K==2)=a0 at P ⊢;clear hA
 go_enter func128,ntmps128
 go_upto_region 2 with (fail)
 generalize (w.alloc (J #[V I K,V I r,V I s,U b,Y t p A,Y y d l] 185))=u at *;clear R ao a5 ba a9 a4 an c3 c4 c5
 go_region_held3 (λa=>a.cell? ⟨q,0,O⟩=W (V I K)) (first|exact n|exact D) (first|(go_at_call 175;refine(ku _).mono ?_;rintro e a3 ⟨rfl,j⟩;have D:a3.cell? ⟨q,0,O⟩=W (V I K):=j.at (show u.drew.cell? _=_ from n) id))
 have F:=j.heap (show u.drew.heap[q]? =_ from S.out) id;obtain⟨bn,b2,bm,b0,bs,bD,_⟩:=pE F;have L:=H.out.trans ((ξ xO u).drew.trans j);have k:=zD L;clear F L j S H n a1 be ad bk a2 D P;cases a0 with
 |false=>
  go_wp2_with fail
  go_ret
  exact⟨rfl,k.out⟩
 |true=>
  by_cases z:d=0
  ·subst z
   go_wp2_with fail
   go_ret
   exact⟨rfl,k.out⟩
  ·have b4:¬(d:Int)=0:=by omega
   by_cases M:1 < m
   ·have av:1 < (m:Int):=by omega
    go_wp2_with fail
    go_ret
    exact⟨by simp[z,M],k.out⟩
   ·have av:¬1 < (m:Int):=by omega
    go_wp2_with fail
    go_ret
    exact⟨by simp[z,M],k.out⟩
end
section
attribute [local go_sem] ak
theorem len196(a:World)(b:Nat)(c:Array MapEntry)(f:Nat)(d:a.heap[b]? =W (.map c f))(e:TypeId):(Builtin.len_ #[196] e #[.map (W b)]).run π a=.ok (V I (c.size:Int)) a:=by
 simp[Builtin.len_,run_underlying underlying196,MapKept.run_getObj_map d,goInt,Result.andThen]
theorem xW.len196{a:World}{b:Nat}{d:List (Value × Value)}(e:xW π 3 a b d):∀c,(Builtin.len_ #[196] c #[.map (W b)]).run π a=.ok (.int I (d.length:Int)) a:=by
 obtain⟨⟨f,i,g,rfl⟩,_⟩:=e;intro c;rw[Go.Proofs.YtbikgdhbiebhcaaGreatDoor.len196 a b f i g c];simp
theorem jk(g:List Tp.Nd)(b:yR g)(a:Tp.okGr 0 g=true):(g.flatMap (·.kids)).length<=100000000/\∀k∈g.flatMap (·.kids),k < g.length:=by
 unfold Tp.okGr at a;simp only[zQ,decide_eq_true_eq,List.all_eq_true]at a;obtain⟨⟨_,n⟩,e⟩:=a;constructor
 ·have:∀l:List Tp.Nd,(∀x∈l,yx x)->(l.flatMap (·.kids)).length<=l.length * 100000:=by
   intro l;induction l with
   |nil=>intro _;simp
   |cons x r ih=>
    intro c;have p:=ih (λd i=>c d (by simp[i]));have o:=(c x (by simp)).2.2;rw[List.flatMap_cons,zP,zO];omega
  have:=this g b.1;have:=b.2;omega
 ·intro k f
  obtain⟨x,m,j⟩:=List.mem_flatMap.1 f;exact fK _ x (e x m) k j
theorem pL(g:List Tp.Nd)(v:Value)(p:NS)(w:World)(n:yc w p g v)(j:∀k,p k->k < w.heap.size)(H:Glob w)(u:yt g)(m:yR g)(E:Tp.tidy 0 g=some g)(d:Tp.okGr 0 g=true):
 Calls π 130 #[γ #[V I 0,v]] w λe w'=>(∃s,e=ρ (.tuple #[s,V I 0])/\Row w' (New w) g.length s (xP ((List.range g.length).map (Tp.uses g))))/\Below w.heap.size w w':=by
 have c:Below w.heap.size w (w.alloc (J #[V I 0,v] 54)):=(ζ _ w).alloc (η _) _;have t:=lH g v p _ (n.below c) (λk f=>zK (j k f) c.size) (H.step c) u m E;have S:=jk g m d;have ad:0 < g.length:=by
  unfold Tp.okGr at d;simp only[zQ,decide_eq_true_eq]at d;exact d.1.2
 have D:=λl b W (x:Below w.heap.size w W) (av:w.heap.size<=b) (an:zd W l b v (List.replicate g.length 0))=>m7 g v p l b W (n.below x) (λk f=>⟨zK (j k f) x.size,by have:=j k f;omega⟩) ad m.2 S an;obtain⟨a,a1,rfl,al⟩:=n.form;obtain⟨T,q,G⟩:=zx3 t c D;clear t c n H u m E j D S d
 go_enter func130,ntmps130
 go_wp2_with fail
 refine T.out.mono ?_;rintro e ao ⟨⟨l,b,rfl,y,X,N⟩,P⟩;have F:=q.out.trans (P.mono q.out.size);have M:w.heap.size<=b:=by simp at N;omega
 obtain⟨A,o⟩:=zx2 y F;clear P F y T q N X
 go_wp2_with fail
 refine(G.out l b _ o.out M A.out).mono ?_;rintro e a2 ⟨rfl,C,L⟩;have R:=o.out.trans (L.to_below o.out.size (λi a0 e=>by omega));have z:((List.range g.length).map (Tp.uses g)).length=g.length:=by simp
 have r:=sx (w0:=w) C M (by rw[z];exact al);rw[z]at r;obtain⟨ab,ac⟩:=zx2 r R;clear r R L C G o A
 go_wp2_with fail
 go_ret2
 exact⟨⟨_,rfl,ab.out⟩,ac.out⟩
def yo(l:List Nat):List (Value × Value):=l.map λi:Nat=>(.int I (i:Int),.bool true)
theorem eZ(l:List Nat)(p:Value × Value)(a:p∈yo l):∃i,i∈l/\p.1=.int I (i:Int):=by
 obtain⟨i,b,rfl⟩:=List.mem_map.1 a;exact⟨i,b,rfl⟩
theorem eG(a b:List Nat):xP (a++b)=xP a++xP b:=by simp[xP]
theorem mZ(g:List Tp.Nd)(v:Value)(an:NS)(w:World)(av:yc w an g v)(al:∀k,an k->k < w.heap.size)(c2:Glob w)(c9:yt g)(X:yR g)(dl:Tp.tidy 0 g=some g)(q:Tp.okGr 0 g=true):
 Calls π 93 #[γ #[.int I 0,v]] w λe w'=>(∃dr,e=ρ (.tuple #[dr,.int I 0])/\Row w' (New w) g.length dr (xP ((List.range g.length).map (Tp.anchor g))))/\Below w.heap.size w w':=by
 obtain⟨dm,o,c6,d5,dv⟩:=info_parts gI;have ab:Below w.heap.size w (w.alloc (J #[.int I 0,v] 54)):=(ζ _ w).alloc (η _) _;have cv:=lH g v an _ (av.below ab) (λk n=>zK (al k n) ab.size) (c2.step ab) c9 X dl;have dJ:=jk g X q;have cS:∀x∈g,0<=x.k/\x.k<=2:=by
  unfold Tp.okGr at q;simp only[zQ,decide_eq_true_eq,List.all_eq_true]at q;exact λx F=>wD x _ (q.2 x F)
 have c1:0 < g.length:=by
  unfold Tp.okGr at q;simp only[zQ,decide_eq_true_eq]at q;exact q.1.2
 have dC:=λC d W (d3:Below w.heap.size w W) (f4:w.heap.size<=d) (e1:zd W C d v (List.replicate g.length 0))=>m7 g v an C d W (av.below d3) (λk n=>⟨zK (al k n) d3.size,by have:=al k n;omega⟩) c1 X.2 dJ e1;have e2:=X.2;obtain⟨a,e0,rfl,dj⟩:=av.form;obtain⟨cf,be,cl,ck,eq,ex⟩:=zx6 cv ab dC av cS al;clear cv ab av c2 c9 X dl al dC dJ q cS;obtain⟨c,co⟩:∃c,g.length=c:=⟨_,rfl⟩;have ft:=zD co;rw[co]at cf be cl ck c1 e2 dj ⊢;clear co;have fR:=@run_makeMap π
 go_enter func93,ntmps93
 go_wp2_with fail
 refine cf.out.mono ?_;rintro e N ⟨⟨C,d,rfl,bm,dW,dn⟩,ep⟩;have a5:=be.out.trans (ep.mono be.out.size);have en:w.heap.size<=d:=by simp at dn;omega
 have f8:w.heap.size<=C:=by simp at dW;omega
 have fY:=lt_of_heap bm.blk;have fX:=bm.num.lt;have el:Far xO N (N.alloc (.map #[] 0)):=(ξ _ N).alloc _;have c3:=bm.far el id id;have H:Below w.heap.size w (N.alloc (.map #[] 0)):=a5.alloc a5.size _;have d1:=aL (P:=π) (K:=3) N;obtain⟨eg,a6,bx⟩:=zx3 c3 H d1;have eM:=a5.size;clear ep a5 bm cf be dn dW el c3 H d1
 go_wp2_with fail
 refine(cl.out C d _ a6.out en eg.out).mono ?_;rintro e a0 ⟨rfl,b4,b6⟩;clear fR;have H:=a6.out.trans (b6.to_below a6.out.size (λi o e=>by omega));have bs:((List.range c).map (Tp.uses g)).length=c:=by simp
 have M:=sx (w0:=w) b4 en (by rw[bs];exact dj);rw[bs]at M;have ef:=(ck.out.below H);obtain⟨L,ei⟩:∃e6,N.heap.size=e6:=⟨_,rfl⟩;rw[ei]at bx fY fX eM;have b3:=bx.out.far b6 (by show ¬L=d;omega);have f2:=b3.lt;obtain⟨fl,a9,e7,fG,fr⟩:=zx5 M H b4 b3 ef;clear M H b6 b4 cl a6 eg b3 ef bx ck bs
 go_wp2_with fail
 clear ei
 go_loopw [8,25] (λfE b1 wr=>∃(t:Nat) (s:Option Addr) (D E:Nat),fE=Y s D E/\t<=c/\b1=.int I (t:Int)/\wr.ownsRow a0.heap.size 3 1 (Y s D E) t (xP ((List.range t).map (Tp.anchor g)))/\xW π 3 wr L (yo ((List.range t).filter (Tp.isAnch g)))/\Far (·=L) a0 wr) (λ_ b1 _=>c - (Lib.intOf b1).toNat)
 case atStart=>exact⟨0,_,_,_,rfl,z_ _,rfl,World.ownsRow_nil _ _ _ _,fG.out,ξ _ _⟩
 case round=>
  obtain⟨t,s,D,E,rfl,f3,rfl,z,ba,A⟩:=hrel;by_cases c5:t < c
  ·obtain⟨x,F⟩:∃x,g[t]? =some x:=⟨_,zE (by rw[ft.out];exact c5)⟩
   have c0:=eq.out x (zL F);have e8:L≠d:=by omega
   have es:L≠C:=by omega
   have b8:=e7.out.far A (λe=>es e.symm) (λe=>e8 e.symm);have db:=fr.out.far A (λk n _ e=>by have:=ex.out k n;omega);have d4:((List.range c).map (Tp.uses g))[t]? =some (Tp.uses g t):=by simp[c5]
   have d2:wr.cell? ⟨d,t,O⟩=some (.int I (Tp.uses g t:Int)):=b8.num.cell (by unfold xP;rw[List.getElem?_map,d4];rfl);have u:=ph g (Y a c e0) an C d t (Tp.uses g t) _ x wr db F b8 c0;have a1:Tp.isAnch g t=((x.k==1||x.k==2)&&!x.kids.isEmpty&&decide (1 < Tp.uses g t)):=by
    unfold Tp.isAnch;rw[zY,F];rfl
   rw[<-a1]at u;have e3:(t:Int) < (c:Int):=by omega
   have f6:(0:Int)<=(t:Int):=by omega
   have b:((List.range (t+1)).filter (Tp.isAnch g))=((List.range t).filter (Tp.isAnch g))++(if Tp.isAnch g t then [t]else []):=by
    rw[List.range_succ,List.filter_append];congr 1
    clear a1 u;simp only[List.filter];cases Tp.isAnch g t<;>rfl
   have e5:((List.range t).filter (Tp.isAnch g)).length<=t:=by have:=List.length_filter_le (Tp.isAnch g) (List.range t);simpa using this
   have r:((List.range (t+1)).map (Tp.anchor g))=((List.range t).map (Tp.anchor g))++[Tp.anchor g t]:=by rw[List.range_succ,List.map_append];rfl
   have f:Tp.anchor g t=if Tp.isAnch g t then ((List.range t).filter (Tp.isAnch g)).length+(if Tp.isAnch g t then 1 else 0)else 0:=by
    unfold Tp.anchor;rw[b];clear a1 u b;cases Tp.isAnch g t<;>simp
   obtain⟨U,dc⟩:∃U,Tp.uses g t=U:=⟨_,rfl⟩;obtain⟨m,cb⟩:∃bw,(List.range t).filter (Tp.isAnch g)=bw:=⟨_,rfl⟩;obtain⟨b9,bn⟩:∃bw,(List.range t).map (Tp.anchor g)=bw:=⟨_,rfl⟩;have dp:∀i∈m,i < t:=by
    intro i o;rw[<-cb]at o
    simpa using (List.mem_filter.1 o).1
   have e9:b9.length=t:=by rw[<-bn];simp
   rw[dc]at d2 u;rw[cb]at b e5 ba f;rw[bn]at r z;obtain⟨b0,dg⟩:∃b0,Tp.isAnch g t=b0:=⟨_,rfl⟩;rw[dg]at u b f;have di:=z.lt;have f7:=A.size;obtain⟨ej,ds,dA,da,T,ek⟩:=zx6 u z ba A di b;obtain⟨d0,c4,er⟩:=zx3 r f dp;clear u z ba A di b r f dp b8 db d4 F a1 cb bn dg dc c0 e9
   go_wp2_with fail
   refine ej.out.mono ?_;rintro e a2 ⟨rfl,G⟩;have bk:=dA.out.far G (λe=>e);have bb:=am ds.out G (λ_ _ e=>e);have a3:=da.out.step G (λ_ _ e=>e.elim);have f0:=G.size;clear ej ds dA da d2;cases b0 with
   |true=>
    obtain⟨ac,f1,cT,a4⟩:=bk.put bh underlying196 (.int I (t:Int)) (.bool true) (bW t (by omega)) (λp fT=>by
     obtain⟨i,o,fw⟩:=eZ _ _ fT;rw[fw];intro e;have:=er.out i o;simp at e
     omega)
    have ch:xW π 3 ac L (yo (m++[t])):=by
     have:yo (m++[t])=yo m++[(.int I (t:Int),.bool true)]:=by simp[yo]
     rw[this];exact cT
    have fs:=ch.len196;have fz:(yo (m++[t])).length=m.length+1:=by simp[yo]
    rw[fz]at fs;have d6:=am bb a4 (λk e h=>by subst h;have:=T.out _ e;omega);have df:=a3.step a4 (λ_ _ e=>e);have l:Far xO ac (ac.alloc (J #[.int I ((m.length:Int)+1)] 3)):=(ξ _ ac).alloc _;have R:=am d6 l (λ_ _ e=>e);have S:=ch.far l (λe=>e);have ad:=df.step l (λ_ _ e=>e.elim);have f5:=a4.size;obtain⟨bR,bq,cc⟩:=zx3 R S ad;clear bk bb a3 G cT ch d6 df l R S ad a4
    go_wp2_with (at_builtin;refine wpList_append_own _ rfl (.tmp 36) (.tmp 39) 122 rfl a0.heap.size 3 dm _ 1 8 underlying122 o c6 d5 dv rfl (by decide) (Y s D E) t _ rfl bR.out ⟨ac.heap.size,0,O⟩ 1 1 [.int I ((m.length:Int)+1)] rfl rfl (λj fv bD=>by rw[gK];exact(ae (af _ _) j).trans (by simpa using bD)) (by simp[Value.oneCell']) (by unfold maxLen;omega) (by omega) (by simp;omega) ?_;intro fL w5 y cm _)
    have ao:Far (λk=>(Value.slice s D E).ownBlock=some k) _ w5:=(ξ _ _).grown cm (λk e _=>e);have ca:=bq.out.far ao (λe=>by have:=(T.out _ e).1;omega);have b2:=cc.out.step ao (λk n e=>by have:=(T.out _ e).1;omega);have f:=c4.out;have r:=d0.out;have b:=ek.out;simp only[if_true,if_false,Bool.false_eq_true,List.append_nil]at f b;have b5:xP ((List.range (t+1)).map (Tp.anchor g))=xP b9++[.int I ((m.length:Int)+1)]:=by rw[r,f,eG];rfl
    rw[<-b5]at y;obtain⟨gg,cap,rfl,fu,_⟩:=aA y
    go_roundw
    case rel=>exact⟨t+1,_,_,_,rfl,by omega,by go_num,y,by rw[b];exact ca,b2⟩
    case measure=>simp[Lib.intOf];omega
   |false=>
    have l:Far xO a2 (a2.alloc (J #[.int I 0] 3)):=(ξ _ a2).alloc _;have R:=am bb l (λ_ _ e=>e);have S:=bk.far l (λe=>e);have ad:=a3.step l (λ_ _ e=>e.elim);obtain⟨bR,bq,cc⟩:=zx3 R S ad;clear bk bb a3 G l R S ad
    go_wp2_with (at_builtin;refine wpList_append_own _ rfl (.tmp 41) (.tmp 42) 122 rfl a0.heap.size 3 dm _ 1 8 underlying122 o c6 d5 dv rfl (by decide) (Y s D E) t _ rfl bR.out ⟨a2.heap.size,0,O⟩ 1 1 [.int I 0] rfl rfl (λj fv bD=>by rw[gK];exact(ae (af _ _) j).trans (by simpa using bD)) (by simp[Value.oneCell']) (by unfold maxLen;omega) (by omega) (by simp;omega) ?_;intro fL w5 y cm _)
    have ao:Far (λk=>(Value.slice s D E).ownBlock=some k) _ w5:=(ξ _ _).grown cm (λk e _=>e);have ca:=bq.out.far ao (λe=>by have:=(T.out _ e).1;omega);have b2:=cc.out.step ao (λk n e=>by have:=(T.out _ e).1;omega);have f:=c4.out;have r:=d0.out;have b:=ek.out;simp only[if_true,if_false,Bool.false_eq_true,List.append_nil]at f b;have b5:xP ((List.range (t+1)).map (Tp.anchor g))=xP b9++[.int I 0]:=by rw[r,f,eG];rfl
    rw[<-b5]at y;obtain⟨gg,cap,rfl,fu,_⟩:=aA y
    go_roundw
    case rel=>exact⟨t+1,_,_,_,rfl,by omega,by go_num,y,by rw[b];exact ca,b2⟩
    case measure=>simp[Lib.intOf];omega
  ·obtain rfl:t=c:=by omega
   have e3:¬(t:Int) < (t:Int):=by omega
   have e4:=cz z;subst e4;have M:=az z;have fn:=zD (M.mono (G':=New w) (λk (n:a0.heap.size<=k) _=>(by have:=a9.out.size;show w.heap.size<=k;omega)));have fS:=zD (a9.out.trans (A.to_below a9.out.size (λi o e=>by omega)));clear z M A ba fl a9
   go_wp2_with fail
   go_ret2
   exact⟨⟨_,rfl,fn.out⟩,fS.out⟩
end
section
attribute [local go_sem] ak
theorem jD(s:ByteArray)(b:s.size<=1000000)(w:World):Calls π 384 #[U s] w λe w'=>e=ρ (U (⟨#[32]⟩++s))/\w'=w:=by
 have a:(⟨#[32]⟩++s).size<=maxLen:=by rw[zX];unfold maxLen;have:(⟨#[32]⟩:ByteArray).size=1:=rfl;omega
 go_enter func384,ntmps384
 go_wp2_with fail
 go_ret
 exact⟨rfl,rfl⟩
def zp(s:Tp.B):Value:=.iface 273 (xR s)
theorem mx(a i:Nat)(w:World):Calls π 178 #[Z (W ⟨a,0,O⟩),V I (i:Int)] w λe w'=>e=ρ (U ⟨#[91,93]⟩)/\w'=w:=by
 go_enter func178,ntmps178
 go_wp2
 go_ret
 exact⟨rfl,rfl⟩
theorem mN(a i:Nat)(w:World):Calls π 179 #[Z (W ⟨a,0,O⟩),V I (i:Int)] w λe w'=>e=ρ (U ⟨#[123,125]⟩)/\w'=w:=by
 go_enter func179,ntmps179
 go_wp2
 go_ret
 exact⟨rfl,rfl⟩
theorem iR(g:List Tp.Nd)(v t:Value)(u:NS)(j q i:Nat)(x:Tp.Nd)(w:World)(k:yc w u g v)(l:g[i]? =W x)(r:w.heap[j]? =W (J #[V I 0,v,t,.map (W q)] 198 (0,0)))(m:Glob w)(c:x8 x.x=true/\x.x.s.length<=1000):
 Calls π 177 #[Z (W ⟨j,0,O⟩),V I (i:Int)] w λe w'=>e=ρ (xR (Tp.scText x.x))/\Below w.heap.size w w':=by
 obtain⟨kv,A,d⟩:=k.at l;obtain⟨C,o,cap,rfl,S,F,G,H,c3,c4,c5⟩:=d.cells;have L:=d.lt;have a:=eb x.x c.2 c.1 w m;unfold scV at a;obtain⟨b,n⟩:∃b,xR x.x.s=U b:=⟨_,rfl⟩;obtain⟨T,f⟩:∃b,xR (Tp.scText x.x)=U b:=⟨_,rfl⟩;rw[n]at c3 a;rw[f]at a ⊢;obtain⟨R,E,D,N,_⟩:=pC r;have X:(0:Int)<=(i:Int):=by omega
 have y:(i:Int) < (g.length:Int):=by omega
 generalize x.x.k=M at *;generalize x.x.n=P at *;have s:=zD a;clear k l d n f a c m
 go_enter func177,ntmps177
 go_wp2_with fail
 refine s.out.mono ?_;rintro e z ⟨rfl,p⟩
 go_wp2_with fail
 go_ret
 exact⟨rfl,p⟩
theorem vR(w:World):(zeroValue 87).run π w=.ok .nilFunc w:=by kernel_rfl
theorem oc(g:List Tp.Nd)(v H:Value)(X:NS)(c P i:Nat)(x:Tp.Nd)(w:World)(z:yc w X g v)(u:g[i]? =W x)(m:w.heap[c]? =W (J #[.int I 0,v,H,.map (W P)] 198 (0,0)))(C:Glob w)(E:x8 x.x=true/\x.x.s.length<=1000)(bR:0<=x.k/\x.k<=2)(ac:x.kids=[]):
 Calls π 132 #[.pointer (W ⟨c,0,O⟩),.int I (i:Int)] w λe w'=>e=ρ (zp (Tp.nodeWord x))/\Below w.heap.size w w':=by
 have s:∃f T,(f,x.k)∈[((177:Nat),(0:Int)),(178,1),(179,2)]/\xR (Tp.nodeWord x)=.string T/\∀b,Below w.heap.size w b->Calls π f #[.pointer (W ⟨c,0,O⟩),.int I (i:Int)] b λe w'=>e=ρ (.string T)/\Below b.heap.size b w':=by
  have a4:x.k=0\/x.k=1\/x.k=2:=by omega
  rcases a4 with a|a|a
  ·refine⟨177,_,by simp[a],rfl,λb d=>?_⟩
   have:=iR g v H X c P i x b (z.below d) u ((d.block _ (lt_of_heap m)).trans m) (C.step d) E;refine this.mono ?_;rintro e t ⟨rfl,a6⟩;exact⟨by unfold Tp.nodeWord;rw[if_pos a];rfl,a6⟩
  ·refine⟨178,_,by simp[a],rfl,λb d=>?_⟩
   refine(mx c i b).mono ?_;rintro e t ⟨rfl,rfl⟩;exact⟨by unfold Tp.nodeWord;rw[if_neg (by omega),if_pos a],ζ _ _⟩
  ·refine⟨179,_,by simp[a],rfl,λb d=>?_⟩
   refine(mN c i b).mono ?_;rintro e t ⟨rfl,rfl⟩;exact⟨by unfold Tp.nodeWord;rw[if_neg (by omega),if_neg (by omega)],ζ _ _⟩
 obtain⟨f,T,j,F,s⟩:=s;have ch:=@run_makeMap π;have ab:xW π 3 (w.alloc (.map #[] 0)) w.heap.size []:=aL w;obtain⟨t,k,al,N⟩:=ab.put bh underlying345 (.int I 0) (φ (.func 177) #[.pointer (W ⟨c,0,O⟩)] #[]) (l:=.int I 0) (by kernel_rfl) (by simp);obtain⟨cv,R,M,D⟩:=al.put bh underlying345 (.int I 1) (φ (.func 178) #[.pointer (W ⟨c,0,O⟩)] #[]) (l:=.int I 1) (by kernel_rfl) (by simp);obtain⟨n,ao,A,av⟩:=M.put bh underlying345 (.int I 2) (φ (.func 179) #[.pointer (W ⟨c,0,O⟩)] #[]) (l:=.int I 2) (by kernel_rfl) (by simp);have L:Far (·=w.heap.size) w n:=((ξ (·=w.heap.size) w).alloc _).step (D':=(·=w.heap.size)) ((N.trans D).trans av) (λi a3 e=>e);have p:Below w.heap.size w n:=L.to_below (η _) (λi a3 e=>by omega);have bm:(Instr.lookup 345 (.map (W w.heap.size)) (.int I x.k) false).run π n=.ok (φ (.func f) #[.pointer (W ⟨c,0,O⟩)] #[]) n:=by
  have a1:=A.look_in bh underlying345 (vR _) (.int I x.k) (l:=.int I x.k) (Maps.keyOf_int_mk underlying3 (uO _ (by omega) (by omega))) false (φ (.func f) #[.pointer (W ⟨c,0,O⟩)] #[]) (by
   simp only[List.mem_cons,List.not_mem_nil,or_false,Prod.mk.injEq]at j;rcases j with ⟨rfl,a⟩|⟨rfl,a⟩|⟨rfl,a⟩<;>rw[a]<;>simp) (by
   intro q ad S;simp only[List.mem_cons,List.not_mem_nil,or_false,Prod.mk.injEq]at j;simp only[List.nil_append,List.cons_append,List.mem_cons,List.not_mem_nil,or_false]at ad;rcases j with ⟨rfl,a⟩|⟨rfl,a⟩|⟨rfl,a⟩<;>rw[a]at S<;>rcases ad with rfl|rfl|rfl<;>simp at S ⊢)
  simpa using a1
 obtain⟨kv,b5,r⟩:=z.at u;have G:=r.below p;obtain⟨bw,o,cap,rfl,ct,cc,b1,be,c3,c4,c5⟩:=r.cells;obtain⟨cl,b2,bx,a5,ca,bk,b0,a9,bs,b4,a2⟩:=G.cells;injection a5 with k R ao;injection k with k;injection k with k e4;clear R;subst k e4 ao;have co:=r.lt;obtain⟨cb,ba,rfl,_⟩:=r.kid.form;obtain⟨bn,b8,ck,b3,_⟩:=pC m;obtain⟨b9,bD,cS,bb,_⟩:=pC ((p.block _ (lt_of_heap m)).trans m);rw[ac]at c5 a2;have cf:(0:Int)<=(i:Int):=by omega
 have bq:(i:Int) < (g.length:Int):=by omega
 unfold zp;rw[F];have an:=zD (s n p);have cm:∀args b,(callFunc f args).run π b=.ok (.enter f args) b:=by
  intro args b;simp only[List.mem_cons,List.not_mem_nil,or_false,Prod.mk.injEq]at j;rcases j with ⟨rfl,a⟩|⟨rfl,a⟩|⟨rfl,a⟩<;>kernel_rfl
 clear j s;have y:=zD p;generalize g.length=b6 at *;generalize x.k=K at *;clear ab al M A N D av L p z u r G ac E C F m
 go_enter func132,ntmps132
 go_wp2_with fail
 refine an.out.mono ?_;rintro e t ⟨rfl,d⟩;have a0:=y.out.trans (d.mono y.out.size);clear an y d
 go_wp2_with fail
 go_ret
 exact⟨rfl,a0⟩
end
section
attribute [local go_sem] ak
theorem Ee(s:ByteArray)(w:World):∃cap a,(convert 9 36 (U s)).run π w=.ok (Y (W ⟨w.heap.size,0,O⟩) s.size cap) a/\Below w.heap.size w a:=by
 have b:=Lib.run_convert_string_bytes (P:=π) w 9 36 5 s underlying9 underlying36 underlying5;have d:=Lib.bytesWorld_at_new w 5 s;exact⟨grownCap w s.size 0 5,Lib.bytesWorld w 5 s,b,⟨rfl,rfl,rfl,Nat.le_of_lt (lt_of_heap d),λi c=>Lib.bytesWorld_at_old w 5 _ i c⟩⟩
theorem Ed(w:World)(p:Option Addr)(a:Nat):(convert 36 9 (Y p 0 a)).run π w=.ok (U ⟨#[]⟩) w:=by
 rw[run_convert_bytes_string w 36 9 5 p 0 a underlying36 underlying5 underlying9];cases p<;>simp[Conv.bytesToString,loadCells]<;>rfl
theorem Ec(w:World):Calls π 180 #[V I 0] w λe w'=>e=ρ (U ⟨#[]⟩)/\Below w.heap.size w w':=by
 have b:=strings_Repeat_main ⟨#[32]⟩ 48 w (by decide) (by decide) (by decide) (by decide);obtain⟨a,c⟩:∃a,(⟨(Lib.repeatL (⟨#[32]⟩:ByteArray).data.toList 48).toArray⟩:ByteArray)=a:=⟨_,rfl⟩;rw[c]at b;have m:a.size=48:=by rw[<-c];simp[ByteArray.size,Lib.repeatL_length]
 have i:=zD b;clear b c
 go_enter func180,ntmps180
 go_wp2_with fail
 refine i.out.mono ?_;rintro e f ⟨rfl,d⟩;obtain⟨cap,j,k,g⟩:=Ee a f;have n:=Ed j (W ⟨f.heap.size,0,O⟩) 0;have l:=d.trans (g.mono d.size);clear d g i;rw[m]at k
 go_wp2_with fail
 go_ret
 exact⟨rfl,l⟩
end
section
attribute [local go_sem] ak
theorem fI{q:Nat}:∀(b:List Value) (o:Nat) (c:World) (a:List Value),PR c q a->o+b.length<=a.length->PR (c.setCells q o b) q (a.take o++b++a.drop (o+b.length)):=by
 intro b;induction b with
 |nil=>intro o c a d _;simpa [World.setCells]using d
 |cons u r ih=>
  intro o c a d f;have j:=ih (o+1) _ _ (aQ d o u) (by simp at f ⊢;omega);unfold World.setCells;have i:o < a.length:=by simp at f;omega
  have e:(a.set o u).take (o+1)++r++(a.set o u).drop (o+1+r.length)=a.take o++(u::r)++a.drop (o+(u::r).length):=by
   rw[List.take_set,List.drop_set_of_lt (by omega),zO,show o+(r.length+1)=o+1+r.length by omega];have:(a.take (o+1)).set o u=a.take o++[u]:=by
    have g:(a.take o).length=o:=by rw[List.length_take];omega
    rw[zG,zE i];show (a.take o++[a[o]]).set o u=_;rw[List.set_append_right _ _ (by omega),g,Nat.sub_self];rfl
   rw[this];simp
  rw[<-e];exact j
theorem eJ{q:Nat}:∀(b:List Value) (o:Nat) (a:World),Far (·=q) a (a.setCells q o b):=by
 intro b;induction b with
 |nil=>intro o a;exact ξ _ _
 |cons u r ih=>
  intro o a;unfold World.setCells;exact(Far.setCell (D:=(·=q)) (ξ _ _) (p:=⟨q,o,O⟩) (λ_=>rfl) _).trans (ih _ _)
theorem tV:(prog.info? 9).map (λi=>(i.zero,i.size,i.bytes))=W (W (U ⟨#[]⟩),1,16):=by kernel_rfl
theorem k7(c:World)(q o n cap m:Nat)(a:Addr)(f p:Nat)(e:ByteArray)(d:List Value)(y:m=Nat.min f n)(g:PR c q d)(s:o+m<=d.length)(v:∀j,j < m->c.cell? (a.add j)=W (U e)):
 ∃i,(Builtin.copy_ #[22,22] 3 #[Y (W ⟨q,o,O⟩) n cap,Y (W a) f p]).run π c=.ok (V I (m:Int)) i/\PR i q (d.take o++List.replicate m (U e)++d.drop (o+m))/\Far (·=q) c i:=by
 obtain⟨D,w,z,r,A⟩:=info_parts tV;have t:(prog.info? 9).map (·.size)=W 1:=by rw[w];simp[r]
 have l:=run_copy_cells (P:=π) c 22 22 3 9 q o n cap a f p (List.replicate m (U e)) underlying22 t (by simpa using y) (λj x b=>by
  rw[List.getElem?_replicate]at b;split at b
  ·injection b with b;subst b;exact v j (by assumption)
  ·cases b) (λj b=>by
   have C:j < m:=by simpa using b
   rw[g.cell (zE (by omega))];rfl) (λj b=>g.frozen _) (by intro x u;rw[List.eq_of_mem_replicate u];rfl)
 have k:=fI (List.replicate m (U e)) o c d g (by simpa using s);rw[List.length_replicate]at l k;exact⟨_,by rw[l];simp[goInt],k,eJ _ _ _⟩
theorem vd(d o S a:Nat)(c:ByteArray)(w:World)(bR:w.cell? ⟨d,o,O⟩=W (U c))(G:d < w.heap.size)(b2:0 < a)(cf:a<=1000000):
 Calls π 221 #[Y (W ⟨d,o,O⟩) 1 S,V I (a:Int)] w λe w'=>(∃ao,e=ρ ao/\Row w' (New w) a ao (List.replicate a (U c)))/\Below w.heap.size w w':=by
 obtain⟨bm,p,bk,bx,bs⟩:=info_parts tV;have z:=bits_Mul 1 a (by omega) (by omega) w;rw[Nat.one_mul,Nat.div_eq_of_lt (by omega),Nat.mod_eq_of_lt (by omega)]at z;obtain⟨E,ab,a0,R⟩:=run_make_full (P:=π) w w.heap.size 22 9 bm _ 1 underlying22 p bk bx I I a (by rw[bs];omega) (by unfold maxLen;omega) (η _);have r:Below w.heap.size w E:=(ζ _ w).grown R (η _) (λ_ e=>by cases e);have s:=bK a0;have M:((madeCells (Value.string ⟨#[]⟩).cells (a * 1)).toList).length=a:=by simp[madeCells,Value.cells]
 obtain⟨A,a6⟩:∃A,(madeCells (Value.string ⟨#[]⟩).cells (a * 1)).toList=A:=⟨_,rfl⟩;rw[a6]at s M;obtain⟨q,D⟩:∃q,w.heap.size=q:=⟨_,rfl⟩;rw[D]at s ab G r;have a4:E.cell? ⟨d,o,O⟩=W (U c):=(World.cell?_of_block (w:=w) (r.block d G)).trans bR;obtain⟨a2,a9,a1,ad⟩:=k7 E q 0 a a 1 ⟨d,o,O⟩ 1 S c A (by show 1=min 1 a;omega) s (by omega) (λj bb=>by obtain rfl:j=0:=(by omega);exact a4);have ac:Below q w a2:=r.trans (ad.to_below (by have:=r.size;omega) (λi p e=>by omega));have av:∃b,PR a2 q b/\b.length=a/\∀i,i < 1->b[i]? =W (U c):=⟨_,a1,by simp;omega,λi p=>by obtain rfl:i=0:=(by omega);rfl⟩;have H:Calls π 251 #[V .u64 1,V .u64 (a:Int)] w λe w'=>e=ρ (.tuple #[V .u64 0,V .u64 (a:Int)])/\w'=w:=z;obtain⟨t,u,y⟩:=zx3 H ac av;clear z H a0 R s a1 ad r ac av a6 M a4
 go_enter func221,ntmps221
 go_wp2_with fail
 refine t.out.mono ?_;rintro e b9 ⟨rfl,ba⟩;obtain rfl:=ba.symm
 go_wp2_with fail
 clear a9 ab
 go_loopw [8] (λC wr=>∃n:Nat,0 < n/\n<=a/\C=V I (n:Int)/\(∃b,PR wr q b/\b.length=a/\∀i,i < n->b[i]? =W (U c))/\Below q w wr) (λC _=>a - (Lib.intOf C).toNat)
 case atStart=>exact⟨1,Nat.one_pos,by omega,rfl,y.out,u.out⟩
 case round=>
  obtain⟨n,b4,cc,rfl,⟨b,l,ca,k⟩,g⟩:=hrel;by_cases b3:n < a
  ·obtain⟨m,x⟩:∃m,Nat.min n (a - n)=m:=⟨_,rfl⟩
   have cb:m<=n/\m<=a - n/\0 < m:=by subst x;show min n (a - n)<=n/\min n (a - n)<=a - n/\0 < min n (a - n);omega
   have F:Far xO wr wr.drew:=(ξ _ wr).drew;have v:=l.far F id;obtain⟨N,b5,L,X⟩:=k7 wr.drew q n (a - n) (a - n) m ⟨q,0,O⟩ n a c b x.symm v (by omega) (λj bb=>by rw[gK];exact v.cell (k j (by omega)));have an:Below q w N:=g.trans ((F.mono (D':=(·=q)) (λ_ _ e=>e.elim)).trans X |>.to_below (by have:=g.size;omega) (λi p e=>by omega));have a5:∃b,PR N q b/\b.length=a/\∀i,i < n+m->b[i]? =W (U c):=by
    refine⟨_,L,by simp;omega,λi p=>?_⟩;by_cases h:i < n
    ·rw[List.append_assoc,List.getElem?_append_left (by simp;omega),List.getElem?_take_of_lt h]
     exact k i h
    ·rw[List.append_assoc,zV (by simp;omega),List.getElem?_append_left (by simp;omega),List.getElem?_replicate,if_pos (by simp;omega)]
   have be:(n:Int) < (a:Int):=by omega
   have b8:(0:Int)<=(n:Int):=by omega
   have b0:(n:Int)<=(a:Int):=by omega
   have b1:IntKind.i64.wrap ((n:Int)+(m:Int))=(n:Int)+(m:Int):=zU _ (by omega);obtain⟨bq,bn⟩:=zx2 a5 an;clear l k v L X an a5 F g t y u x
   go_wp2_with fail
   go_region
   go_wp2_with fail
   go_roundw
   case rel=>exact⟨n+m,by omega,by omega,by go_num,bq.out,bn.out⟩
   case measure=>simp[Lib.intOf];omega
  ·obtain rfl:n=a:=by omega
   have be:¬(n:Int) < (n:Int):=by omega
   have a3:Row wr (New w) n (Y (W ⟨q,0,O⟩) n n) (List.replicate n (U c)):=⟨_,q,0,n,rfl,⟨η _,by unfold maxLen;omega⟩,λ_=>(by show w.heap.size<=q;omega),λ_=>⟨rfl,l.lt,λi b6 f=>by
    rw[List.getElem?_replicate]at f;split at f
    ·injection f with f;subst f;rw[Nat.zero_add];exact l.cell (k i (by assumption))
    ·cases f⟩⟩
   have T:Below w.heap.size w wr:=by rw[D];exact g
   obtain⟨bD,bw⟩:=zx2 a3 T;clear a3 T g l k t y u
   go_wp2_with fail
   go_ret
   exact⟨⟨_,rfl,bD.out⟩,by rw[<-D];exact bw.out⟩
end
section
attribute [local go_sem] ak
theorem cV(a b:Tp.B):(⟨a.toArray⟩:ByteArray)++⟨b.toArray⟩=⟨(a++b).toArray⟩:=by
 apply ByteArray.ext
 simp
theorem rF(g:List Tp.Nd)(v d1:Value)(c4:NS)(c0 d5 i:Nat)(x:Tp.Nd)(w:World)(N:yc w c4 g v)(b4:g[i]? =some x)(bD:w.heap[c0]? =some (J #[V I 0,v,d1,.map (some d5)] 198 (0,0)))(b6:Glob w)(dj:Ah x)(av:yx x)(a5:∀b∈Tp.keysOf x,(x8 b=true/\b.s.length<=1000)/\(Tp.scText b).length<=100000)(l:x.k=1\/x.k=2)(da:x.kids≠[]):
 Calls π 182 #[Z (some ⟨c0,0,O⟩),V I (i:Int)] w λe w'=>(∃m,e=ρ m/\Row w' (New w) (Tp.headsOf x).length m ((Tp.headsOf x).map xR))/\Below w.heap.size w w':=by
 obtain⟨d2,ek,dC,er,ei⟩:=info_parts tV;obtain⟨kv,d4,P⟩:=N.at b4;have bn:=bS 0 x v kv d4 g.length i c4 w P av;have dg:=λW (dl:Below w.heap.size w W)=>P.below dl;obtain⟨a,e8,rfl,fv⟩:=N.form;obtain⟨f0,e4,rfl,_⟩:=P.kid.form;have f3:=P.lt;have ep:x.kids.length<=100000:=av.2.2;have b5:0 < x.kids.length:=List.length_pos_iff.2 da;obtain⟨D,L,an,cl,_⟩:=pC bD;obtain⟨c,M⟩:∃c,Tp.keysOf x=c:=⟨_,rfl⟩;have di:c.length < 100000:=by
  rw[<-M];unfold Tp.keysOf Tp.pairs;split
  ·rw[List.length_map,<-ce,cg,List.length_zip];have:=av.1;omega
  ·simp
 have d:Tp.headsOf x=if x.k=1 then List.replicate x.kids.length [45]else c.map λb=>Tp.scText b++[58]:=by
  unfold Tp.headsOf;rw[M];split
  ·rw[List.map_const']
  ·rfl
 have c6:x.k=1->c=[]:=λh=>by
  rw[<-M];unfold Tp.keysOf Tp.pairs;rw[if_neg (by omega)];rfl
 rw[M]at bn a5;generalize hR:Tp.headsOf x=ad at d ⊢;obtain⟨c3,bs,bR,a3,bk,a0⟩:=zx6 bn dg a5 d b6 bD;have a1:=zD c6;clear N b4 P bn dg a5 d b6 bD M hR av dj c6 da;generalize hNN:g.length=d6 at *
 go_enter func182,ntmps182
 go_wp2_with fail
 refine c3.out.mono ?_;rintro e n ⟨⟨m,rfl,u⟩,b2⟩;obtain⟨fl,e9,rfl,_⟩:=u.form;obtain⟨q,X⟩:∃q,c.length=q:=⟨_,rfl⟩;rw[X]at u di;obtain⟨be,al⟩:=zx2 u b2;have co:=b2.size;clear u b2 c3 D L an cl;rw[X]
 go_wp2_with fail
 go_loopw [7,23] (λen a9 wr=>∃(t:Nat) (E:Option Addr) (C sc:Nat),en=Y E C sc/\t<=q/\a9=V I (t:Int)/\wr.ownsRow n.heap.size 9 1 (Y E C sc) t ((c.take t).map λb=>xR (Tp.scText b++[58]))/\Below n.heap.size n wr) (λ_ a9 _=>q - (Lib.intOf a9).toNat)
 case atStart=>exact⟨0,_,_,_,rfl,z_ _,rfl,World.ownsRow_nil _ _ _ _,ζ _ _⟩
 case round=>
  obtain⟨t,E,C,sc,rfl,fE,rfl,p,r⟩:=hrel;by_cases dv:t < q
  ·obtain⟨b,S⟩:∃b,c[t]? =some b:=⟨_,zE (by rw[X];exact dv)⟩
   obtain⟨f4,fu,fL,a4,_,ft,eq,el,b8⟩:=(be.out.below r).sc S;injection a4 with e11 e12 e13;clear e12;subst e11 e13;have R:=bR.out b (zL S);obtain⟨SX,b9⟩:∃ds,xR b.s=U ds:=⟨_,rfl⟩;have ba:Below n.heap.size n (wr.alloc (J #[V I b.k,V I b.n,U SX] 30)):=r.alloc r.size _;have db:=af wr (J #[V I b.k,V I b.n,U SX] 30);have F:=eb b R.1.2 R.1.1 (wr.alloc (J #[V I b.k,V I b.n,U SX] 30)) (bk.out.step (al.out.trans (ba.mono co)));unfold scV at F;rw[b9]at b8 F;obtain⟨T,bb⟩:∃T,Tp.scText b=T:=⟨_,rfl⟩;rw[bb]at F R;have bw:(⟨T.toArray⟩:ByteArray)++⟨#[58]⟩=⟨(T++[58]).toArray⟩:=cV T [58];have c5:((⟨T.toArray⟩:ByteArray)++⟨#[58]⟩).size<=maxLen:=by rw[bw];show ((T++[58]).toArray).size<=maxLen;unfold maxLen;simp;omega
   have df:(c.take (t+1)).map (λb=>xR (Tp.scText b++[58]))=(c.take t).map (λb=>xR (Tp.scText b++[58]))++[U (⟨T.toArray⟩++⟨#[58]⟩)]:=by
    rw[zG,S,List.map_append,bw];simp[bb,xR]
   have dr:(t:Int) < (q:Int):=by omega
   have f1:(0:Int)<=(t:Int):=by omega
   obtain⟨D,L,an,_⟩:=bv db;have cf:=am p ((ξ xO wr).alloc (J #[V I b.k,V I b.n,U SX] 30)) (λ_ _ e=>e);obtain⟨ao,cv,bq,cT⟩:=zx4 F cf ba df;have d0:=zD p.lt;unfold xR at ao;obtain⟨f,bx⟩:∃f:ByteArray,⟨T.toArray⟩=f:=⟨_,rfl⟩;rw[bx]at ao c5;have d3:=zD (by have:=cT.out;rw[bx]at this;exact this:(c.take (t+1)).map (λb=>xR (Tp.scText b++[58]))=(c.take t).map (λb=>xR (Tp.scText b++[58]))++[U (f++⟨#[58]⟩)]);have c9:f.size+(⟨#[58]⟩:ByteArray).size<=maxLen:=by rw[<-zX];exact c5
   have fr:f.size+1<=maxLen:=c9;have e1:f.size+1<=9223372036854775807:=c9;have fR:f.size<=9223372036854775806:=by omega
   have fG:¬9223372036854775807 < f.size+1:=by omega
   clear F p cf ba df r db b9 bb bw cT bx R S
   go_upto_region 6 with (fail)
   generalize (wr.alloc (J #[V I b.k,V I b.n,U SX] 30))=fX at *
   go_wp2_with fail
   refine ao.out.mono ?_;rintro e a6 ⟨rfl,y⟩;have ca:=am cv.out (Far.of_below y xO) (λ_ _ e=>e);have b1:=bq.out.trans (y.mono bq.out.size);have ef:=b1.size;have A:Below n.heap.size n (a6.alloc (J #[U (f++⟨#[58]⟩)] 9)):=b1.alloc ef _;have z:=am ca ((ξ xO a6).alloc (J #[U (f++⟨#[58]⟩)] 9)) (λ_ _ e=>e);obtain⟨dp,dc⟩:=zx2 z A;have dJ:=A.size;clear ca y b1 z A ao cv bq D L an eq el b8
   go_wp2_with (at_builtin;refine wpList_append_own _ rfl (.tmp 32) (.tmp 35) 22 rfl n.heap.size 9 d2 _ 1 16 underlying22 ek dC er ei rfl (by decide) (Y E C sc) t _ rfl dp.out ⟨a6.heap.size,0,O⟩ 1 1 [U (f++⟨#[58]⟩)] rfl rfl (λj fY dn=>by rw[gK];exact(ae (af _ _) j).trans (by simpa using dn)) (by simp[Value.oneCell']) (by unfold maxLen;omega) (by omega) (by simpa using dJ) ?_;intro f2 w5 z ex _)
   obtain⟨gg,cap,rfl,fS,_⟩:=aA z;rw[<-d3.out]at z;have ac:=dc.out.grown ex dc.out.size (λk e=>(d0.out k e).1)
   go_roundw
   case rel=>exact⟨t+1,_,_,_,rfl,by omega,by go_num,z,ac⟩
   case measure=>simp[Lib.intOf];omega
  ·obtain rfl:t=q:=by omega
   have dr:¬(t:Int) < (t:Int):=by omega
   rw[zR (by omega)]at p;have s:=al.out.trans (r.mono co);have b0:=bs.out _ s;obtain⟨fn,o,cap,es,f5,a2,fs,e0,fc,fw,c2⟩:=b0.cells;injection es with a4 e2 e3;clear e2;subst a4 e3;have bm:=(s.block _ (lt_of_heap a0.out)).trans a0.out;obtain⟨D,L,an,cl,_⟩:=pC bm;have e5:(0:Int)<=(i:Int):=by omega
   have f7:(i:Int) < (d6:Int):=by omega
   have ck:=zD s;rcases l with l|l
   ·have e6:=a1.out l
    have d:=a3.out;rw[if_pos l]at d;obtain⟨H,eg⟩:∃H,x.kids.length=H:=⟨_,rfl⟩;rw[eg]at d c2 ep b5;have y:Below w.heap.size w (wr.alloc (J #[U ⟨#[45]⟩] 9)):=s.alloc s.size _;have G:Far xO wr (wr.alloc (J #[U ⟨#[45]⟩] 9)):=(ξ _ wr).alloc _;have cm:=vd wr.heap.size 0 1 H ⟨#[45]⟩ (wr.alloc (J #[U ⟨#[45]⟩] 9)) (ae (af _ _) 0) (lt_of_heap (af _ _)) b5 (by omega);have eM:=G.at a2 id;have fT:=G.at c2 id;have f6:=G.at D id;have e7:=G.at L id;obtain⟨b3,ab⟩:=zx2 cm y;rw[l]at a2 eM;subst d;clear p r b0 bm s y G cm bs a0 al ck be bR bk a1
    go_wp2_with fail
    refine b3.out.mono ?_;rintro e w5 ⟨⟨m,rfl,ch⟩,A⟩;have ac:=ab.out.trans (A.mono ab.out.size);have cb:Row w5 (New w) (List.replicate H [(45:UInt8)]).length m ((List.replicate H [(45:UInt8)]).map xR):=by
     rw[List.length_replicate,List.map_replicate];exact ch.mono (λk l _=>by have:=ab.out.size;show w.heap.size<=k;exact Nat.le_trans this l)
    obtain⟨dm,dA⟩:=zx2 cb ac;clear ch A ac cb b3 ab
    go_wp2_with fail
    go_ret
    exact⟨⟨_,rfl,dm.out⟩,dA.out⟩
   ·have d:=a3.out
    rw[if_neg (by omega)]at d;rw[l]at a2;have dW:=cz p;subst dW;have u:=az p;have cS:=zD (u.mono (G':=New w) (λk (l:n.heap.size<=k) _=>(by show w.heap.size<=k;omega)));have ct:ad.length=C:=by rw[d,List.length_map,X]
    have cc:ad.map xR=c.map λb=>xR (Tp.scText b++[58]):=by rw[d,List.map_map];rfl
    have c1:∃m,Value.slice E C sc=m/\Row wr (New w) ad.length m (ad.map xR):=⟨_,rfl,by rw[ct,cc];exact cS.out⟩;have ej:=zD c1;clear c1 cS;clear p r b0 bm s bs a0 al be bR bk a1 a3 d u ct cc
    go_wp2_with fail
    go_ret
    obtain⟨m,rfl,N⟩:=ej.out;exact⟨⟨_,rfl,N⟩,ck.out⟩
end
section
attribute [local go_sem] ak
theorem kE(xs:List (List UInt8)):Lib.join xs []=xs.flatten:=by
 cases xs with
 |nil=>rfl
 |cons x a=>
  rw[Lib.join_cons];have:∀a:List (List UInt8),Lib.joinTail [] a=a.flatten:=by
   intro a;induction a with
   |nil=>rfl
   |cons y a ih=>simp[Lib.joinTail]at ih ⊢;try exact ih
  rw[this];rfl
def Al(t:Tp.B)(b a:Int):Value:=γ #[xR t,V I b,V I a]
theorem Eb(b s:Nat)(xs:List Tp.B)(c:Int)(w:World)(C:b < w.heap.size)(H:∀(j:Nat) x,xs[j]? =some x->w.cell? ⟨b,j,O⟩=some (xR x))(a6:xs.length<=10)(ad:xs.length<=s)(f:xs.flatten.length<=1000000):
 Calls π 133 #[V I 0,V I c,Y (some ⟨b,0,O⟩) xs.length s] w λe w'=>e=ρ (Al xs.flatten 0 c)/\Below w.heap.size w w':=by
 have d:=λW (R:Below w.heap.size w W)=>strings_Join b 0 s (xs.map λx=>(⟨x.toArray⟩:ByteArray)) ⟨#[]⟩ W (λj x y=>by
  rw[List.getElem?_map]at y;obtain⟨T,X,rfl⟩:=zN.1 y;rw[Nat.zero_add];exact(World.cell?_of_block (w:=w) (R.block b C)).trans (H j T X)) (zK C R.size) (by simp;omega) (by simpa using ad) (by
   rw[List.map_map,show ((λx=>x.data.toList) ∘ λx:Tp.B=>(⟨x.toArray⟩:ByteArray))=id from rfl,List.map_id];show (Lib.join xs []).length<=_;rw[kE];omega)
 simp only[List.length_map]at d;have M:(Lib.join ((xs.map λx=>(⟨x.toArray⟩:ByteArray)).map (·.data.toList)) (⟨#[]⟩:ByteArray).data.toList)=xs.flatten:=by
  rw[List.map_map,show ((λx=>x.data.toList) ∘ λx:Tp.B=>(⟨x.toArray⟩:ByteArray))=id from rfl,List.map_id];exact kE xs
 rw[M]at d;unfold Al xR;obtain⟨a,o⟩:∃a:ByteArray,(⟨xs.flatten.toArray⟩:ByteArray)=a:=⟨_,rfl⟩;have av:a.size<=1000000:=by rw[<-o];exact f
 have a4:(⟨#[]⟩:ByteArray)++a=a:=by apply ByteArray.ext;simp
 rw[o]at d ⊢;have F:Below w.heap.size w (w.alloc (J #[U ⟨#[]⟩,V I 0,V I 0] 203)):=(ζ _ w).alloc (η _) _;have m:=af w (J #[U ⟨#[]⟩,V I 0,V I 0] 203);obtain⟨q,k⟩:∃q,w.heap.size=q:=⟨_,rfl⟩;rw[k]at m;obtain⟨A,n,l,ac⟩:=zx4 d F m k;generalize xs.length=ao at *;clear d F H f M m o
 go_enter func133,ntmps133
 go_upto_region 1 with (fail)
 generalize (w.alloc (J #[U ⟨#[]⟩,V I 0,V I 0] 203))=al at *;clear k
 go_wp2_with fail
 refine(Ec _).mono ?_;rintro e an ⟨rfl,r⟩;have G:=n.out.trans (r.mono n.out.size);have g:=zD G;have z:=(r.block _ (lt_of_heap l.out)).trans l.out;have p:=zD z;clear r G z n l
 go_wp2_with fail
 refine(A.out _ g.out).mono ?_;rintro e bb ⟨rfl,t⟩;have N:=g.out.trans (t.mono g.out.size);have u:=(t.block _ (lt_of_heap p.out)).trans p.out;obtain⟨a9,a3,a1,a0,a2,ba⟩:=bv u;have E:=xv u (U a) (V I 0) (V I c);obtain⟨D,L⟩:=zx2 E N;clear t u E N A p g
 go_wp2_with fail
 have S:=L.out.trans (D.out.2.to_below L.out.size (λi a5 e=>by have:=ac.out;omega));exact bodyPost_ret (v:=γ #[U a,V I 0,V I c]) (by
  have f:=run_loadVar_row (P:=π) _ q 203 203 #[U a,V I 0,V I c] (0,0) _ D.out.1 underlying203 rfl (by kernel_rfl);have ab:f133.results=#[ResultVar.cell 6 203]:=rfl;simp[results,ab,asAddr,f,Sem.run_bind,Result.andThen]) rfl ⟨rfl,S⟩
end
section
attribute [local go_sem] ak
theorem pX(x:Value)(a:World):(Go.method 653 273 x "sigillary/emit.text").run π a=.ok (384,x) a:=by kernel_rfl
theorem wo(s:Value)(a:World):(Instr.typeAssert (.iface 273 s) 271 277 true).run π a=.ok (.tuple #[γ #[V I 0,U ⟨#[]⟩],β false]) a:=by kernel_rfl
def D8(g:List Tp.Nd)(k:Nat):Prop:=∃a,g[k]? =W a/\a.kids=[]/\(0<=a.k/\a.k<=2)/\(x8 a.x=true/\a.x.s.length<=1000)/\(Tp.nodeWord a).length<=100000
def Eg(c:List Tp.B)(t:Nat)(a:Array Value)(b:NS)(_:World):Prop:=(∃s,c[t]? =W s/\a=#[Al s 0 (-1)])/\b=xO
end
section
attribute [local go_sem] ak
theorem wn(i:Int)(s:ByteArray)(a:World):(Instr.typeAssert (.iface 277 (γ #[V I i,U s])) 271 273 true).run π a=.ok (.tuple #[U ⟨#[]⟩,β false]) a:=by kernel_rfl
theorem wm(i:Int)(s:ByteArray)(a:World):(Instr.typeAssert (.iface 277 (γ #[V I i,U s])) 271 277 false).run π a=.ok (γ #[V I i,U s]) a:=by kernel_rfl
theorem Ef(s:ByteArray)(a:World):(Instr.typeAssert (.iface 273 (U s)) 271 273 true).run π a=.ok (.tuple #[U s,β true]) a:=by kernel_rfl
theorem Ea(g:List Tp.Nd)(v a1:Value)(F:NS)(r o E:Nat)(x:Tp.Nd)(w:World)(bk:yc w F g v)(u:g[0]? =W x)(bw:D8 g 0)(L:w.heap[o]? =W (.cells #[V I 0,v,a1,.map (W E)] 198 (0,0)))(A:w.heap[r]? =W (.cells #[Z (W ⟨o,0,O⟩)] 195 (0,0)))(al:Glob w):
 yQ π 131 #[Z (W ⟨r,0,O⟩)] 3 1 (Eg [Tp.nodeWord x]) (·=E) (λk=>k=r\/k=o\/k < 10\/F k) True (λ_ _=>True) (λ_=>True) w:=by
 intro l J b5 y b d b8 hF0 ab b2 b1 C ba;have ad:=bk.below d;have a9:=(d.block _ (lt_of_heap L)).trans L;have P:=(d.block _ (lt_of_heap A)).trans A;obtain⟨cf,q,a3,ac,a5,bx⟩:=bw;rw[u]at q;injection q with q;subst q;have f:=oc g v a1 F o E 0 x b ad u a9 (al.step d) a5 ac a3;obtain⟨a,an⟩:∃a,Tp.nodeWord x=a:=⟨_,rfl⟩;rw[an]at f C bx;unfold zp at f;obtain⟨c,M⟩:∃c,xR a=U c:=⟨_,rfl⟩;rw[M]at f;have cb:=Ef c;have b9:=d.size;have bm:∀i,Below b.heap.size b i->J 0 y i:=λi bD=>ab 0 y b i ba (Far.of_below bD _);have b6:=zF P 0 rfl;obtain⟨bs,T,a6⟩:=zx3 f bm C;clear f bm ab b2 b1 C ba bk u L al ad a9 hF0 d A P an a3 ac a5
 go_enter func131,ntmps131
 go_wp2_with fail
 refine bs.out.mono ?_;rintro e p ⟨rfl,N⟩;have a0:Below b.heap.size b (p.alloc (.cells #[U c] 9)):=N.alloc N.size _;have G:=af p (.cells #[U c] 9);have t:=Eb p.heap.size 1 [a] (-1) (p.alloc (.cells #[U c] 9)) (lt_of_heap G) (λj z s=>by
  match j with
  |0=>simp at s;subst s;rw[M];exact ae G 0
  |j+1=>simp at s) (by simp) (by simp) (by simp;omega)
 have av:[a].flatten=a:=by simp
 rw[av]at t;obtain⟨a4,D⟩:=zx2 t a0;clear t G N a0 bs av
 go_upto_region 3 with (fail)
 refine(wpIn_wide (n:=4)).1 ?_
 gi_wp2
 refine⟨trivial,callsIn_wide.2 (a4.out.mono ?_)⟩;rintro e bn ⟨rfl,a2⟩;have bq:=T.out bn (D.out.trans (a2.mono D.out.size));obtain⟨ch,cc,assign,body,m,S⟩:=a6.out 0 (by omega) y xO #[Al a 0 (-1)] bn bq ⟨⟨_,rfl,rfl⟩,rfl⟩ (λk h=>h.elim);have H:=zD S;clear S a4 a2 D T a6 bq;unfold Al at m ⊢;rw[M]at m
 gi_wp2
 refine(H.out).mono ?_;rintro e ca ⟨be,⟨ao,R⟩,(⟨rfl,bb⟩|⟨rfl,X⟩)⟩
 ·have b3:=zD bb
  clear bb ao R H m
  gi_wp2
  go_wp2_with fail
  exact bodyPost_ret (v:=.tuple #[]) (by simp[results,results131,go_sem]) rfl ⟨⟨_,rfl⟩,.inl ⟨be,b3.out,trivial⟩⟩
 ·have b4:=zD X
  clear X ao R H m
  gi_wp2
  go_wp2_with fail
  exact bodyPost_ret (v:=.tuple #[]) (by simp[results,results131,go_sem]) rfl ⟨⟨_,rfl⟩,.inr ⟨be,b4.out⟩⟩
end
section
attribute [local go_sem] ak
theorem pg(g:List Tp.Nd)(v:Value)(E:NS)(r:List Nat)(w:World)(s:yc w E g v)(av:∀k,E k->k < w.heap.size)(S:Glob w)(ac:yt g)(A:yR g)(ad:Tp.tidy 0 g=W g)(f:Tp.deepest g 1000 0 1 (List.replicate g.length 0)=W r)(X:Tp.okGr 0 g=true)
(an:∀i,i < g.length->r.getD i 0+(if (g.getD i ⟨0,Tp.Sc.null,[],[]⟩).kids.isEmpty then 0 else 1)<=24):
 Calls π 92 #[γ #[V I 0,v]] w λe w'=>e=ρ (β false)/\Below w.heap.size w w':=by
 have l:Below w.heap.size w (w.alloc (J #[V I 0,v] 54)):=(ζ _ w).alloc (η _) _;have n:=af w (J #[V I 0,v] 54);have P:=pt g v E r _ (s.below l) (λk z=>zK (av k z) l.size) (S.step l) ac A ad f X;obtain⟨q,ab⟩:∃q,w.heap.size=q:=⟨_,rfl⟩;rw[ab]at n;obtain⟨T,a0,_⟩:=bO n;have a6:=A.2;obtain⟨a,a5,rfl,_⟩:=s.form;obtain⟨b,M⟩:∃b,g.length=b:=⟨_,rfl⟩;obtain⟨bs,F,p,m,R,G⟩:=zx6 M P l n an s;rw[M]at F p m R G T a0 a6 ⊢;clear P l n an s av S ac A ad f X M
 go_enter func92,ntmps92
 go_upto_region 1 with (fail)
 generalize (w.alloc (J #[V I 0,Y a b a5] 54))=ca at *;clear ab
 go_wp2_with fail
 refine F.out.mono ?_;rintro e bx ⟨⟨cb,rfl,al,D⟩,L⟩;obtain⟨b6,b3,rfl,_⟩:=D.form;have a2:=(L.block _ (lt_of_heap m.out)).trans m.out;have C:=p.out.trans (L.mono p.out.size);have a3:=G.out.below C;obtain⟨b4,ck,_⟩:=bO a2;obtain⟨bq,ba,be,bk⟩:=zx4 D a3 C al;clear D L a2 C a3 al F p m G T a0
 go_wp2_with fail
 go_loopw [14] (λy wr=>∃t:Nat,y=V I (t:Int)/\t<=b/\wr=bx) (λy _=>b - (Lib.intOf y).toNat)
 case atStart=>exact⟨0,rfl,z_ _,rfl⟩
 case round=>
  obtain⟨t,rfl,b9,rfl⟩:=hrel;by_cases j:t < b
  ·obtain⟨x,u⟩:∃x,g[t]? =W x:=⟨_,zE (by rw[bs.out];exact j)⟩
   obtain⟨d,f⟩:∃d,r[t]? =W d:=⟨_,zE (by rw[bk.out];exact j)⟩;have c:=R.out t j;rw[zY,f,zY,u]at c;simp only[Option.getD_some]at c;obtain⟨kv,cc,H⟩:=ba.out.at u;obtain⟨b8,o,cap,bn,ct,bw,bb,a4,c3,c4,c5⟩:=H.cells;injection bn with e91 e92 e93;clear e92;subst e91 e93;obtain⟨ch,b0,rfl,_⟩:=H.kid.form;obtain⟨cf,b5,b1,bR,_,co,cm⟩:=bq.out.nat f;injection bR with e81 e82 e83;clear e82;subst e81 e83;have a9:(t:Int) < (b:Int):=by omega
   have cl:(0:Int)<=(t:Int):=by omega
   have a1:d+(if x.kids.length=0 then 0 else 1)<=24:=by cases z:x.kids<;>simp[z]at c ⊢<;>omega
   clear c;have c:=a1;generalize x.kids.length=ao at *;clear H a1 u f bw bb a4 c3 c4;by_cases N:ao=0
   ·subst N
    have bD:¬24 < (d:Int):=by simp at c;omega
    have bm:¬(0:Int) < ((0:Nat):Int):=by omega
    go_wp2_with fail
    go_roundw
    case rel=>exact⟨t+1,by go_num,j,by first|rfl|trivial⟩
    case measure=>simp[Lib.intOf];omega
   ·have bD:¬24 < (d:Int)+1:=by simp[N]at c;omega
    have bm:(0:Int) < (ao:Int):=by omega
    have b2:IntKind.i64.wrap ((d:Int)+1)=(d:Int)+1:=zU _ (by omega)
    go_wp2_with fail
    go_roundw
    case rel=>exact⟨t+1,by go_num,j,by first|rfl|trivial⟩
    case measure=>simp[Lib.intOf];omega
  ·obtain rfl:t=b:=by omega
   have a9:¬(t:Int) < (t:Int):=by omega
   go_wp2_with fail
   go_ret
   exact⟨rfl,be.out⟩
def plSum(g:List Tp.Nd)(t:Nat):Nat:=((List.range t).map λi=>if Tp.isAnch g i then 1 else Tp.uses g i).sum
theorem ib(g:List Tp.Nd)(t:Nat):plSum g (t+1)=plSum g t+(if Tp.isAnch g t then 1 else Tp.uses g t):=by
 unfold plSum;rw[List.range_succ,List.map_append,List.sum_append];simp
theorem nC(g:List Tp.Nd)(a:Nat)(b:∀i,Tp.uses g i<=a)(c:1<=a):∀t,plSum g t<=t * a
 |0=>by simp[plSum]
 |t+1=>by
  rw[ib];have:=nC g a b c t;have:=b t;rw[Nat.succ_mul];split<;>omega
theorem pD(g:List Tp.Nd)(i:Nat):(0 < Tp.anchor g i)=(Tp.isAnch g i=true):=by
 unfold Tp.anchor;by_cases a:Tp.isAnch g i=true
 ·rw[if_pos a]
  simp only[a,eq_iff_iff,iff_true];exact List.length_pos_iff.2 (List.ne_nil_of_mem (List.mem_filter.2 ⟨List.mem_range.2 (Nat.lt_succ_self i),a⟩))
 ·simp[a]
theorem oH(g:List Tp.Nd)(v R:Value)(z be:NS)(w:World)(D:yc w z g v)(T:∀k,z k->k < w.heap.size)(L:Glob w)(M:yt g)(m:yR g)(P:Tp.tidy 0 g=W g)(q:Tp.okGr 0 g=true)(x:Row w be g.length R (xP ((List.range g.length).map (Tp.anchor g)))):
 Calls π 94 #[γ #[V I 0,v],R] w λe w'=>e=ρ (V I (Tp.places g:Int))/\Below w.heap.size w w':=by
 have d:Below w.heap.size w (w.alloc (J #[V I 0,v] 54)):=(ζ _ w).alloc (η _) _;have G:=pL g v z _ (D.below d) (λk a1=>zK (T k a1) d.size) (L.step d) M m P q;have ba:=jk g m q;have C:∀i,Tp.uses g i<=100000001:=λi=>by
  unfold Tp.uses;have:=List.count_le_length (a:=i) (l:=g.flatMap (·.kids));split<;>omega
 have S:=nC g 100000001 C (by omega);have ao:=m.2;have X:Tp.places g=plSum g g.length:=rfl;rw[X];obtain⟨a,bD,rfl,_⟩:=D.form;obtain⟨cc,c3,rfl,_⟩:=x.form;obtain⟨b,al⟩:∃b,g.length=b:=⟨_,rfl⟩;obtain⟨A,o,p,a3,a6⟩:=zx5 G d x S C;rw[al]at A o p ao ⊢;clear G d D L M m P T ba q x al X S C
 go_enter func94,ntmps94
 go_wp2_with fail
 refine A.out.mono ?_;rintro e bb ⟨⟨b3,rfl,y⟩,ad⟩;obtain⟨b1,bR,rfl,_⟩:=y.form;have u:=o.out.trans (ad.mono o.out.size);have ac:=p.out.below u;obtain⟨a9,a5,a4⟩:=zx3 y ac u;clear y ad u ac A o p
 go_wp2_with fail
 go_loopw [7,17] (λa2 s wr=>∃t:Nat,a2=V I (plSum g t:Int)/\s=V I (t:Int)/\t<=b/\wr=bb) (λ_ s _=>b - (Lib.intOf s).toNat)
 case atStart=>exact⟨0,rfl,rfl,z_ _,rfl⟩
 case round=>
  obtain⟨t,rfl,rfl,b2,rfl⟩:=hrel;by_cases f:t < b
  ·have ab:((List.range b).map (Tp.uses g))[t]? =W (Tp.uses g t):=by simp[f]
   have H:((List.range b).map (Tp.anchor g))[t]? =W (Tp.anchor g t):=by simp[f]
   obtain⟨b5,b0,bs,bk,_,cf,ca⟩:=a9.out.nat ab;injection bk with e81 e82 e83;clear e82;subst e81 e83;obtain⟨bw,bq,bn,a0,_,b9,b8⟩:=a5.out.nat H;injection a0 with e71 e72 e73;clear e72;subst e71 e73;have av:(t:Int) < (b:Int):=by omega
   have b6:(0:Int)<=(t:Int):=by omega
   have c:=ib g t;have n:=pD g t;have cb:=a3.out t;have b4:=a6.out t;have bx:t * 100000001<=200 * 100000001:=Nat.mul_le_mul_right _ (by omega);generalize Tp.anchor g t=r at *;generalize plSum g t=j at *;generalize Tp.uses g t=F at *;clear ab H;by_cases N:0 < r
   ·have bm:0 < (r:Int):=by omega
    rw[if_pos (n.mp N)]at c;have an:IntKind.i64.wrap ((j:Int)+1)=(j:Int)+1:=zU _ (by omega);have E:=zD c;clear c n
    go_wp2_with fail
    go_roundw
    case rel=>exact⟨t+1,by rw[E.out];go_num,by go_num,f,by first|rfl|trivial⟩
    case measure=>simp[Lib.intOf];omega
   ·have bm:¬0 < (r:Int):=by omega
    rw[if_neg (λe=>N (n.mpr e))]at c;have an:IntKind.i64.wrap ((j:Int)+(F:Int))=(j:Int)+(F:Int):=zU _ (by omega);have E:=zD c;clear c n
    go_wp2_with fail
    go_roundw
    case rel=>exact⟨t+1,by rw[E.out];go_num,by go_num,f,by first|rfl|trivial⟩
    case measure=>simp[Lib.intOf];omega
  ·obtain rfl:t=b:=by omega
   have av:¬(t:Int) < (t:Int):=by omega
   go_wp2_with fail
   go_ret
   exact⟨rfl,a4.out⟩
end
section
attribute [local go_sem] ak
attribute [local go_sem] Oper.semAt_some
theorem my(a:Nat)(w:World):Calls π 95 #[Z (W ⟨a,0,O⟩)] w λe w'=>e=ρ (φ (.func 131) #[] #[Z (W ⟨w.heap.size,0,O⟩)])/\w'=w.alloc (J #[Z (W ⟨a,0,O⟩)] 195):=by
 go_enter func95,ntmps95
 go_wp2
 go_ret
 exact⟨rfl,rfl⟩
theorem sk(args:Array Value)(w:World):(callFunc 131 args).run π w=.ok (.enter 131 args) w:=by kernel_rfl
def lenTo(a:List Tp.B)(t:Nat):Nat:=((a.take t).map λl=>l.length+1).sum
theorem ig(a:List Tp.B)(t:Nat)(l:Tp.B)(b:a[t]? =W l):lenTo a (t+1)=lenTo a t+(l.length+1):=by
 unfold lenTo;rw[zG,b,List.map_append,List.sum_append];simp
theorem iO:∀a:List Tp.B,((a.map λl=>l.length+1).sum)=(a.flatMap (·++[10])).length
 | []=>rfl
 |l::r=>by rw[List.map_cons,List.sum_cons,iO r,List.flatMap_cons,zP,zP];rfl
theorem cY(b:List Tp.B)(t:Nat):lenTo b t<=(b.flatMap (·++[10])).length:=by
 rw[<-iO];unfold lenTo;have:∀(l:List Nat) (t:Nat),(l.take t).sum<=l.sum:=by
  intro l;induction l with
  |nil=>intro t;simp
  |cons a r ih=>intro t;cases t with
   |zero=>simp
   |succ t=>have:=ih t;simp;omega
 rw[List.map_take];exact this _ _
theorem nE(b:List Tp.B):b.length<=lenTo b b.length:=by
 unfold lenTo;rw[List.take_length];induction b with
 |nil=>simp
 |cons a r ih=>simp;omega
structure PnI(b:Nat)(w:World)(q:Nat)(ls:List Tp.B)(t:Nat)(F:NS)(W:World):Prop where
 le:t<=ls.length
 row:∃(sa:Option Addr) (sn sc:Nat),(∀k,F k↔k=q\/k=q+1\/(Value.slice sa sn sc).ownBlock=some k)/\W.heap[q]? =some (J #[Y sa sn sc] 22 (0,0))/\W.heap[q+1]? =some (J #[V I (lenTo ls t:Int)] 3 (0,0))/\W.ownsRow (q+2) 9 1 (Y sa sn sc) t ((ls.take t).map xR)
 far:Below b w W
end
section
attribute [local go_sem] ak
end
section
attribute [local go_sem] ak
theorem rM(a:List Tp.B)(t:Nat)(l:Tp.B)(c:a[t]? =W l):(a.take t).flatten.length+l.length<=a.flatten.length:=by
 have d:a=a.take t++(l::a.drop (t+1)):=by
  have b:=(List.take_append_drop t a).symm;rw[aE a t l c]at b;exact b
 have e:=congrArg (λa=>a.flatten.length) d;simp only[List.flatten_append,List.flatten_cons,zP]at e;omega
def commas(a:List Tp.B):Tp.B:=a.flatMap λl=>l++[44]
theorem gt(a:List Tp.B)(t:Nat)(l:Tp.B)(b:a[t]? =W l):(commas (a.take t)).length+(l.length+1)<=(commas a).length:=by
 have:=rM (a.map λl=>l++[44]) t (l++[44]) (by rw[List.getElem?_map,b];rfl);unfold commas;rw[List.flatMap_def,List.flatMap_def,List.map_take]
 simpa using this
theorem gs(a:List Tp.B)(t:Nat)(l:Tp.B)(b:a[t]? =W l):commas (a.take (t+1))=commas (a.take t)++(l++[44]):=by
 unfold commas;rw[zG,b,List.flatMap_append];simp
theorem pV(d:List Nat)(v:Value)(bR:NS)(w:World)(E:Row w bR d.length v (xP d))(F:Glob w)(f:∀k∈d,k<=1000000)(r:(commas (d.map λk=>Tp.itoa ((k:Nat):Int))).length<=1000000):
 Calls π 276 #[v] w λe w'=>e=ρ (xR (commas (d.map λk=>Tp.itoa ((k:Nat):Int))))/\Below w.heap.size w w':=by
 obtain⟨bx,bn,rfl,an⟩:=E.form;have ad:=F.1;unfold maxLen at an;obtain⟨LS,A⟩:∃LS,(d.map λk=>Tp.itoa ((k:Nat):Int))=LS:=⟨_,rfl⟩;have m:∀(t k:Nat),d[t]? =some k->LS[t]? =some (Tp.itoa (k:Int)):=λt k y=>by rw[<-A,List.getElem?_map,y];rfl
 have M:LS.length=d.length:=by rw[<-A];simp
 rw[A]at r ⊢;generalize hN:d.length=j at E M an ⊢;generalize hTX:xR (commas LS)=TX;obtain⟨b,q⟩:∃b,w.heap.size=b:=⟨_,rfl⟩;have g:=bo w;have a:Below w.heap.size w (w.alloc (J #[Z O,Y O 0 0] 38)):=(ζ _ w).alloc (η _) _;have P:=(E.mono (G':=λk=>k < b) (λk _ f=>by rw[<-q];exact f)).below a;have be:(w.alloc (J #[Z O,Y O 0 0] 38)).heap.size=b+1:=by simp[q]
 rw[q]at g ad;have a1:=zD (θ hN M);obtain⟨bD,b0,b3,a4,b2,ac⟩:=zx6 m f r P a g;have bk:=zD (F.step a);have a3:=zD q;clear E F f r P a g m A hN M
 go_enter func276,ntmps276
 go_wp2_with fail
 generalize (w.alloc (J #[Z O,Y O 0 0] 38))=ck at *
 go_loopw [8] (λH wr=>∃t:Nat,H=V I (t:Int)/\t<=j/\Lib.IsBuilderF 38 5 b b (Lib.byteCells (commas (LS.take t))) wr/\Row wr (λk=>k < b) j (Y bx j bn) (xP d)/\Below b w wr/\Glob wr/\b+1<=wr.heap.size) (λH _=>j - (Lib.intOf H).toNat)
 case atStart=>exact⟨0,rfl,z_ _,ac.out,a4.out,by rw[<-a3.out];exact b2.out,bk.out,by omega⟩
 case round=>
  obtain⟨t,rfl,cb,g,C,z,u,r⟩:=hrel;by_cases ab:t < j
  ·obtain⟨k,f⟩:∃k,d[t]? =some k:=⟨_,zE (by rw[a1.out.1];exact ab)⟩
   obtain⟨l,av⟩:∃l,Tp.itoa (k:Int)=l:=⟨_,rfl⟩;have bw:=b0.out k (zL f);have s:=dP (k:Int) (by omega) (by omega) wr u;have m:=bD.out t k f;rw[av]at s m;have bb:=gt LS t l m;have o:=gs LS t l m;have b1:=b3.out;obtain⟨cv,ca,cf,bm,_,b9,co⟩:=C.nat f;injection bm with e11 e12 e13;clear e12;subst e11 e13;obtain⟨c,N⟩:∃c,xR l=U c:=⟨_,rfl⟩;have X:(⟨l.toArray⟩:ByteArray)=c:=by injection N
   have cl:c.size=l.length:=by rw[<-X];rfl
   rw[N]at s;have ct:(c++(⟨#[44]⟩:ByteArray)).size<=maxLen:=by rw[zX];unfold maxLen;show c.size+1<=_;omega
   have b8:c.size+1<=maxLen:=by unfold maxLen;omega
   have b5:c.size+1<=9223372036854775807:=by omega
   have cc:¬9223372036854775807 < c.size+1:=by omega
   have a6:Lib.byteCells (commas (LS.take t))++Lib.strCells (c++(⟨#[44]⟩:ByteArray))=Lib.byteCells (commas (LS.take (t+1))):=by
    rw[o,Lib.byteCells_append,<-X];congr 1
    try (unfold Lib.strCells Lib.byteCells;simp)
   have L:=λW (y:Below wr.heap.size wr W)=>fa b b _ (c++(⟨#[44]⟩:ByteArray)) W (cE g y) (by rw[zX,Lib.byteCells_length];have:(⟨#[44]⟩:ByteArray).size=1:=rfl;omega) (by have:=y.size;omega);rw[a6]at L;have bq:(t:Int) < (j:Int):=by omega
   have cm:(0:Int)<=(t:Int):=by omega
   obtain⟨ao,a0,p,a9,S⟩:=zx5 L C z s u;clear L a6 g C z N av m bb o s u f bw b1
   go_wp2_with fail
   refine a9.out.mono ?_;rintro e w5 ⟨rfl,a5⟩;have n:=zD a5;clear a5 a9
   go_wp2_with fail
   refine(ao.out _ n.out).mono ?_;rintro e G ⟨rfl,R,a,_⟩;have be:=a.size;have b6:=n.out.size;have a2:=(a0.out.below n.out).far (D:=λk=>b<=k) ⟨a.os,a.tape,a.output,a.size,λi ch b4=>a.block i (Nat.lt_of_not_le b4)⟩ (λk f _ e=>by omega);have al:=p.out.trans ((n.out.mono (by omega)).trans a);have T:Glob G:=(S.out.step n.out).keep a ad;have x:=zD (θ (show Lib.IsBuilderF 38 5 b b _ G from .inr R) (θ a2 (θ al T)));clear R a a2 al T ao a0 p n S
   go_wp2_with fail
   go_roundw
   case rel=>exact⟨t+1,by go_num,ab,x.out.1,x.out.2.1,x.out.2.2.1,x.out.2.2.2,by omega⟩
   case measure=>simp[Lib.intOf];omega
  ·obtain rfl:t=j:=by omega
   have bq:¬(t:Int) < (t:Int):=by omega
   rw[zR (by rw[a1.out.2];omega)]at g;have o:=Tryz.Builder_String_any_f b b _ wr g (by omega);obtain⟨ba,p⟩:=zx2 o z;clear o z g C u ac a4
   go_wp2_with fail
   refine ba.out.mono ?_;rintro e G ⟨rfl,_,a⟩;have bs:=p.out.trans a;clear a ba p;unfold xR at hTX;rw[hTX]
   go_wp2_with fail
   go_ret
   exact⟨rfl,by rw[a3.out];exact bs⟩
end
section
attribute [local go_sem] ak
theorem kC(x:Tp.Nd)(v kv bk dc:Value)(n i bq:Nat)(a9:NS)(w0:World)(al:yN w0 a9 v n i x kv bk)(b6:yx x)(b4:w0.heap[bq]? =some (J #[V I 0,v,dc] 319 (0,0)))(p:Glob w0)(f:∀bs∈Tp.keysOf x,x8 bs=true/\bs.s.length<=1000)(u:(commas ((Tp.keysOf x).map Tp.scText)).length<=1000000):
 Calls π 275 #[Z (some ⟨bq,0,O⟩),V I (i:Int)] w0 λe w'=>e=ρ (xR (commas ((Tp.keysOf x).map Tp.scText)))/\Below w0.heap.size w0 w':=by
 have L:=bS 0 x v kv bk n i a9 w0 al b6;obtain⟨dm,dl,rfl,_⟩:∃a cm,v=Y a n cm/\True:=by obtain⟨dn,o,cap,e,_⟩:=al.cells;exact⟨_,_,e,trivial⟩
 obtain⟨ch,c5,df,_⟩:=bv b4;generalize hks:Tp.keysOf x=r at L f u ⊢;obtain⟨LS,H⟩:∃LS,r.map Tp.scText=LS:=⟨_,rfl⟩;have m:∀(t:Nat) (k:Tp.Sc),r[t]? =some k->LS[t]? =some (Tp.scText k):=λt k F=>by rw[<-H,List.getElem?_map,F];rfl
 have ab:LS.length=r.length:=by rw[<-H];simp
 rw[H]at u ⊢;obtain⟨j,ao⟩:∃j,r.length=j:=⟨_,rfl⟩;rw[ao]at ab L;generalize hTX:xR (commas LS)=TX;have bD:=zD (θ ao ab);obtain⟨c0,c2,c6,bR,bm⟩:=zx5 m f u L p;clear p f u m H ao ab L al b6 b4 hks
 go_enter func275,ntmps275
 go_wp2_with fail
 refine bR.out.mono ?_;rintro e w ⟨⟨dC,rfl,ad⟩,N⟩;obtain⟨cT,co,rfl,c1⟩:=ad.form;have p:=bm.out.step N;have ba:=p.1;unfold maxLen at c1;obtain⟨c,A⟩:∃c,w.heap.size=c:=⟨_,rfl⟩;have a0:=N.size;have g:=bo w;have b:Below w.heap.size w (w.alloc (J #[Z O,Y O 0 0] 38)):=(ζ _ w).alloc (η _) _;have av:=(ad.mono (G':=λk=>k < c) (λk _ f=>by rw[<-A];exact f)).below b;have ca:(w.alloc (J #[Z O,Y O 0 0] 38)).heap.size=c+1:=by simp[A]
 rw[A]at g ba a0;obtain⟨b1,c4,a6⟩:=zx3 av b g;have cc:=zD (p.step b);obtain⟨dg,c9⟩:=zx2 A N;clear ad p av b g N bR bm ch c5 df
 go_wp2_with fail
 generalize (w.alloc (J #[Z O,Y O 0 0] 38))=d1 at *
 go_loopw [23] (λT wr=>∃t:Nat,T=V I (t:Int)/\t<=j/\Lib.IsBuilderF 38 5 c c (Lib.byteCells (commas (LS.take t))) wr/\Row wr (λk=>k < c) j (Y cT j co) (xV r)/\Below c w wr/\Glob wr/\c+1<=wr.heap.size) (λT _=>j - (Lib.intOf T).toNat)
 case atStart=>exact⟨0,rfl,z_ _,a6.out,b1.out,by rw[<-dg.out];exact c4.out,cc.out,by omega⟩
 case round=>
  obtain⟨t,rfl,dA,g,M,G,C,u⟩:=hrel;by_cases a5:t < j
  ·obtain⟨k,f⟩:∃k,r[t]? =some k:=⟨_,zE (by rw[bD.out.1];exact a5)⟩
   obtain⟨l,bw⟩:∃l,Tp.scText k=l:=⟨_,rfl⟩;have R:=c2.out k (zL f);obtain⟨SX,P⟩:∃d,xR k.s=U d:=⟨_,rfl⟩;have ac:Below wr.heap.size wr (wr.alloc (J #[V I k.k,V I k.n,U SX] 30)):=(ζ _ wr).alloc (η _) _;have q:=eb k R.2 R.1 (wr.alloc (J #[V I k.k,V I k.n,U SX] 30)) (C.step ac);unfold scV at q;rw[P]at q;obtain⟨cS,da,cf,_⟩:=bv (af wr (J #[V I k.k,V I k.n,U SX] 30));have m:=c0.out t k f;rw[bw]at q m;have b9:=gt LS t l m;have y:=gs LS t l m;have c3:=c6.out;obtain⟨d5,dv,dW,cl,_,ds,db,ck,bn⟩:=M.sc f;rw[P]at bn;injection cl with e11 e12 e13;clear e12;subst e11 e13;obtain⟨d,an⟩:∃d,xR l=U d:=⟨_,rfl⟩;have a4:(⟨l.toArray⟩:ByteArray)=d:=by injection an
   have d2:d.size=l.length:=by rw[<-a4];rfl
   rw[an]at q;have d4:(d++(⟨#[44]⟩:ByteArray)).size<=maxLen:=by rw[zX];unfold maxLen;show d.size+1<=_;omega
   have dr:d.size+1<=maxLen:=by unfold maxLen;omega
   have dj:d.size+1<=9223372036854775807:=by omega
   have dJ:¬9223372036854775807 < d.size+1:=by omega
   have b3:Lib.byteCells (commas (LS.take t))++Lib.strCells (d++(⟨#[44]⟩:ByteArray))=Lib.byteCells (commas (LS.take (t+1))):=by
    rw[y,Lib.byteCells_append,<-a4];congr 1
    try (unfold Lib.strCells Lib.byteCells;simp)
   have X:=λW (F:Below wr.heap.size wr W)=>fa c c _ (d++(⟨#[44]⟩:ByteArray)) W (cE g F) (by rw[zX,Lib.byteCells_length];have:(⟨#[44]⟩:ByteArray).size=1:=rfl;omega) (by have:=F.size;omega);rw[b3]at X;have ct:(t:Int) < (j:Int):=by omega
   have d3:(0:Int)<=(t:Int):=by omega
   obtain⟨be,bx,z,b5,a2,cb⟩:=zx6 X M G q C ac;clear ac P X b3 g M G an bw m b9 y q C f R c3
   go_wp2_with fail
   refine b5.out.mono ?_;rintro e w5 ⟨rfl,b2⟩;have s:=zD (cR cb.out b2);clear b2 b5 cS da cf db ck bn
   go_wp2_with fail
   refine(be.out _ s.out).mono ?_;rintro e S ⟨rfl,a1,b,_⟩;have ca:=b.size;have dp:=s.out.size;have b0:=(bx.out.below s.out).far (D:=λk=>c<=k) ⟨b.os,b.tape,b.output,b.size,λi d0 di=>b.block i (Nat.lt_of_not_le di)⟩ (λk f _ e=>by omega);have bb:=z.out.trans ((s.out.mono (by omega)).trans b);have a3:Glob S:=(a2.out.step s.out).keep b ba;have E:=zD (θ (show Lib.IsBuilderF 38 5 c c _ S from .inr a1) (θ b0 (θ bb a3)));clear a1 b b0 bb a3 be bx z s a2
   go_wp2_with fail
   go_roundw
   case rel=>exact⟨t+1,by go_num,a5,E.out.1,E.out.2.1,E.out.2.2.1,E.out.2.2.2,by omega⟩
   case measure=>simp[Lib.intOf];omega
  ·obtain rfl:t=j:=by omega
   have ct:¬(t:Int) < (t:Int):=by omega
   rw[zR (by rw[bD.out.2];omega)]at g;have y:=Tryz.Builder_String_any_f c c _ wr g (by omega);obtain⟨b8,z⟩:=zx2 y G;clear y G g M C a6 b1
   go_wp2_with fail
   refine b8.out.mono ?_;rintro e S ⟨rfl,_,b⟩;have cv:=z.out.trans b;clear b b8 z;unfold xR at hTX;rw[hTX]
   go_wp2_with fail
   go_ret
   exact⟨rfl,c9.out.trans (cv.mono a0)⟩
end
def AB(w w':World)(a:Value)(n:Nat)(b:List Value):Prop:=∃base,w.heap.size<=base/\w'.ownsRow base 3 1 a n b
theorem AB.mono{w0 w w':World}{a:Value}{n:Nat}{b:List Value}(c:AB w w' a n b)(g:w0.heap.size<=w.heap.size):AB w0 w' a n b:=by
 obtain⟨e,f,d⟩:=c;exact⟨e,Nat.le_trans g f,d⟩
theorem mB(F:Int)(x:Tp.Nd)(v kv S:Value)(n i:Nat)(M:NS)(w:World)(b:yN w M v n i x kv S)(a0:yx x)(bx:x.k≠1):Calls π 87 #[γ #[V I F,v],V I (i:Int)] w λe w'=>(∃R,e=ρ (.tuple #[R,V I 0])/\AB w w' R (Tp.pairs x).length ((Tp.pairs x).flatMap pkid))/\Below w.heap.size w w':=by
 obtain⟨cc,cm,b9,cv,ck⟩:=info_parts gI;obtain⟨a,a5,b2,da⟩:∃a a5,v=Y a n a5/\True:=by obtain⟨c3,o,cap,e,_⟩:=b.cells;exact⟨_,_,e,trivial⟩
 have C:Below w.heap.size w (w.alloc (J #[V I F,v] 54)):=(ζ _ _).alloc (η _) _;have A:=cj F M v kv S n i x _ (b.below C);have y:=λW (u:Below w.heap.size w W)=>cA x kv S n M W ((b.below u).key) ((b.below u).kid) a0;obtain⟨N,ao,rfl,_⟩:=b.key.form;obtain⟨ac,D,rfl,_⟩:=b.kid.form;subst b2;unfold yH at A y;obtain⟨c,b0⟩:∃c,xR x.x.s=U c:=⟨_,rfl⟩;rw[b0]at A y;have a3:(Tp.pairs x).length < 20:=by
  unfold Tp.pairs;split
  ·rw[<-ce,cg,List.length_zip];have:=a0.1;omega
  ·simp
 obtain⟨a6,E,ba⟩:=zx3 A y C;generalize hP:Tp.pairs x=P at a3 E ⊢;have ds:¬x.k=1:=bx;clear A y C b b0 a0 hP bx
 go_enter func87,ntmps87
 go_wp2_with fail
 refine a6.out.mono ?_;rintro e z ⟨rfl,b1⟩;have G:=cR ba.out b1;have be:Below w.heap.size w (z.alloc (J #[V I x.k,V I x.x.k,V I x.x.n,U c,Y N x.keys.length ao,Y ac x.kids.length D,V I (n:Int)] 256)):=G.alloc G.size _;have q:=zD be;clear b1 G be a6 ba
 go_upto_region 2 with (fail)
 have bw:=af z (J #[V I x.k,V I x.x.k,V I x.x.n,U c,Y N x.keys.length ao,Y ac x.kids.length D,V I (n:Int)] 256);obtain⟨a4,bs,bD,bm,a1,a9,bR,_⟩:=bd bw;generalize u:z.heap.size=c9 at a4 bs bD bm a1 a9 bR ⊢;clear bw;generalize (z.alloc (J #[V I x.k,V I x.x.k,V I x.x.n,U c,Y N x.keys.length ao,Y ac x.kids.length D,V I (n:Int)] 256))=dl at *;clear u
 go_wp2_with fail
 refine(E.out _ (by first|exact q.out)).mono ?_;rintro e d ⟨⟨R,rfl,ad⟩,bq⟩;obtain⟨db,c2,rfl,_⟩:=ad.form;have av:=q.out.trans (bq.mono q.out.size);obtain⟨T,X⟩:=zx2 ad av;have df:=av.size;have dp:=q.out.size;clear ad bq av E q a4 bs bD bm a1 a9 bR;generalize hN:P.length=r at a3 T ⊢
 go_wp2_with fail
 go_loopw [8,33] (λco L wr=>∃(t:Nat) (m:Option Addr) (l s:Nat),co=Y m l s/\t<=r/\L=V I (t:Int)/\wr.ownsRow d.heap.size 3 1 (Y m l s) t ((P.take t).flatMap pkid)/\Below d.heap.size d wr) (λ_ L _=>r - (Lib.intOf L).toNat)
 case atStart=>exact⟨0,_,_,_,rfl,z_ _,rfl,World.ownsRow_nil _ _ _ _,ζ _ _⟩
 case round=>
  obtain⟨t,m,l,s,rfl,dc,rfl,g,f⟩:=hrel;by_cases b8:t < r
  ·obtain⟨p,an⟩:∃p,P[t]? =some p:=⟨_,zE (by rw[hN];exact b8)⟩
   obtain⟨dJ,c6,di,b4,c5,dC,dr,b3,dg⟩:=(T.out.below f).pc an;injection b4 with e11 e12 e13;subst e11 e13;obtain⟨SX,H⟩:∃c,xR p.1.s=U c:=⟨_,rfl⟩;rw[H]at b3;have bn:(P.take (t+1)).flatMap pkid=(P.take t).flatMap pkid++[V I (p.2:Int)]:=by
    rw[zG,an,List.flatMap_append];simp[pkid,H]
   have b6:(t:Int) < (r:Int):=by omega
   have dn:(0:Int)<=(t:Int):=by omega
   have bk:Below d.heap.size d ((wr.alloc (J #[V I p.1.k,V I p.1.n,U SX,V I (p.2:Int)] 262)).alloc (J #[V I (p.2:Int)] 3)):=(f.alloc f.size _).alloc (by have:=f.size;simp;omega) _;have a2:=aw (aw g ((ξ xO _).alloc (J #[V I p.1.k,V I p.1.n,U SX,V I (p.2:Int)] 262)) (λ_ _ _ e=>e)) ((ξ xO _).alloc (J #[V I (p.2:Int)] 3)) (λ_ _ _ e=>e);have bb:=g.lt;obtain⟨cf,al,cb,cl⟩:=zx4 a2 bk bb bn;clear g a2 bk f an H bb bn
   go_wp2_with (at_builtin;refine wpList_append_own _ rfl (.tmp 37) (.tmp 40) 122 rfl d.heap.size 3 cc _ 1 8 underlying122 cm b9 cv ck rfl (by decide) (Y m l s) t _ rfl cf.out ⟨wr.heap.size+1,0,O⟩ 1 1 [V I (p.2:Int)] rfl rfl (λj dm b5=>by rw[gK];exact(ae (ah _ _ _ (by simp)) j).trans (by simpa using b5)) (by simp[Value.oneCell']) (by unfold maxLen;omega) (by omega) (Nat.le_trans al.out.size (η _)) ?_;intro dv w5 ab cT _)
   obtain⟨gg,cap,rfl,dj,_⟩:=aA ab;rw[<-cl.out]at ab;have cS:=al.out.grown cT al.out.size (λk e=>(cb.out k e).1)
   go_roundw
   case rel=>exact⟨t+1,_,_,_,rfl,by omega,by go_num,ab,cS⟩
   case measure=>simp[Lib.intOf];omega
  ·obtain rfl:t=r:=by omega
   have b6:¬(t:Int) < (t:Int):=by omega
   rw[zR (by omega)]at g;have ca:l=t:=by
    rcases g.2 with ⟨b,dA⟩|⟨c0,c4,c1,b,_⟩
    ·injection b with h1 h2 h3
     omega
    ·injection b
   subst ca;have ch:RowKit.Hid (AB w wr (Y m l s) l (P.flatMap pkid)):=zD ⟨d.heap.size,by omega,g⟩;have ct:=zD (X.out.trans (f.mono X.out.size));clear g f T X
   go_wp2_with fail
   go_ret2
   exact⟨⟨_,rfl,ch.out⟩,ct.out⟩
theorem oS(z:Int)(x:Tp.Nd)(v kv P:Value)(n i:Nat)(L:NS)(w:World)(b:yN w L v n i x kv P)(a0:yx x)(X:x.k=1):Calls π 87 #[γ #[V I z,v],V I (i:Int)] w λe w'=>(∃k,e=ρ (.tuple #[k,V I 0])/\AB w w' k x.kids.length (xP x.kids))/\Below w.heap.size w w':=by
 obtain⟨a,E,a1,b5⟩:∃a E,v=Y a n E/\True:=by obtain⟨b0,o,cap,e,_⟩:=b.cells;exact⟨_,_,e,trivial⟩
 have y:Below w.heap.size w (w.alloc (J #[V I z,v] 54)):=(ζ _ _).alloc (η _) _;have r:=cj z L v kv P n i x _ (b.below y);obtain⟨C,D,rfl,_⟩:=b.key.form;have ab:=b.kid;obtain⟨q,f,rfl,_⟩:=b.kid.form;subst a1;have av:∀c,Below w.heap.size w c->Calls π 123 #[Y q x.kids.length f] c λe w'=>(∃k,e=ρ k/\AB c w' k x.kids.length (xP x.kids))/\Below c.heap.size c w':=by
  intro c l;have H:=ab.below l;rcases Nat.eq_zero_or_pos x.kids.length with u|u
  ·rw[u,List.length_eq_zero_iff.1 u]
   cases q with
   |none=>exact(slices_Clone_int_nil 0 f c).mono (λe w' b=>⟨⟨_,b.1,⟨_,η _,World.ownsRow_nil _ _ _ _⟩⟩,by rw[b.2];exact ζ _ _⟩)
   |some ad=>exact(slices_Clone_int_zero ad f c).mono (λe w' b=>by obtain⟨bn,rfl,s,_,l⟩:=b;exact⟨⟨_,rfl,⟨_,η _,s⟩⟩,l⟩)
  ·obtain⟨b3,bm⟩:∃bw,x.kids[0]? =W bw:=⟨_,zE u⟩
   obtain⟨g,o,cap,e,_,b2,_⟩:=H.nat bm;injection e with d e2 e3;subst d e3;refine(slices_Clone_int g o x.kids.length f (x.kids.map λi:Nat=>(i:Int)) c (by simp) (by have:=a0.2.2;omega) (λj a4=>?_)).mono (λe w' b=>?_)
   ·have ac:j < x.kids.length:=by simpa using a4
    obtain⟨bD,b6,b1,bs,_,_,a5⟩:=H.nat (i:=j) (x:=x.kids[j]) (zE ac);injection bs with d e2 e3;injection d with d;injection d with d e4;subst d e4;rw[a5];simp[ac,zY]
   ·obtain⟨bn,rfl,s,_,ba⟩:=b
    have d:((x.kids.map λi:Nat=>(i:Int)).take x.kids.length).map (Value.int I)=xP x.kids:=by
     rw[zR (by simp),List.map_map];rfl
    rw[d]at s;exact⟨⟨_,rfl,⟨_,η _,s⟩⟩,ba⟩
 unfold yH at r;obtain⟨m,an⟩:∃m,xR x.x.s=U m:=⟨_,rfl⟩;rw[an]at r;rw[X]at r;obtain⟨F,al,G⟩:=zx3 r av y;clear r av y b an a0 ab X
 go_enter func87,ntmps87
 go_wp2_with fail
 refine F.out.mono ?_;rintro e t ⟨rfl,ao⟩;have A:=cR G.out ao;have M:Below w.heap.size w (t.alloc (J #[V I 1,V I x.x.k,V I x.x.n,U m,Y C x.keys.length D,Y q x.kids.length f,V I (n:Int)] 256)):=A.alloc A.size _;have p:=zD M;clear ao A M F G
 go_upto_region 2 with (fail)
 have T:=af t (J #[V I 1,V I x.x.k,V I x.x.n,U m,Y C x.keys.length D,Y q x.kids.length f,V I (n:Int)] 256);obtain⟨a3,bk,bq,a9,a2,a6,bx,_⟩:=bd T;generalize l:t.heap.size=b4 at a3 bk bq a9 a2 a6 bx ⊢;clear T;generalize (t.alloc (J #[V I 1,V I x.x.k,V I x.x.n,U m,Y C x.keys.length D,Y q x.kids.length f,V I (n:Int)] 256))=b8 at *;clear l
 go_wp2_with fail
 refine(al.out _ (by first|exact p.out)).mono ?_;rintro e bR ⟨⟨k,rfl,S⟩,N⟩;have R:=S.mono p.out.size;have be:=zD (p.out.trans (N.mono p.out.size));have bb:=zD R;clear S R N p al
 go_wp2_with fail
 go_ret2
 exact⟨⟨_,rfl,bb.out⟩,be.out⟩
theorem jd(b:Int)(x:Tp.Nd)(v kv d:Value)(n i:Nat)(c:NS)(w:World)(g:yN w c v n i x kv d)(j:yx x):Calls π 87 #[γ #[V I b,v],V I (i:Int)] w λe w'=>(∃f,e=ρ (.tuple #[f,V I 0])/\AB w w' f (Tp.kidsOf x).length (xP (Tp.kidsOf x)))/\Below w.heap.size w w':=by
 unfold Tp.kidsOf;by_cases a:x.k=1
 ·rw[if_pos a]
  exact oS b x v kv d n i c w g j a
 ·rw[if_neg a]
  have:=mB b x v kv d n i c w g j a;rw[iZ]at this;rw[List.length_map];exact this
section
attribute [local go_sem] ak
def yM(s:Tp.Say):Value:=γ #[V I s.1,V I s.2.1.k,V I s.2.1.n,xR s.2.1.s,xR s.2.2.1,xR s.2.2.2]
def zo(b a:List Nat)(t:Nat):List Nat:=(a.take t).map (λk=>b.getD k 0)++a.drop t
theorem uZ(c b:List Nat)(t k:Nat)(a:b[t]? =W k):(zo c b t)[t]? =W k:=by
 have d:=(zM.1 a).1;unfold zo;rw[zV (by simp;omega),List.length_map,List.length_take,Nat.min_eq_left (by omega),Nat.sub_self,List.getElem?_drop]
 simpa using a
theorem qn(b a:List Nat)(t k:Nat)(c:a[t]? =W k):(zo b a t).set t (b.getD k 0)=zo b a (t+1):=by
 have e:=(zM.1 c).1;have d:((a.take t).map λk=>b.getD k 0).length=t:=by simp;omega
 unfold zo;rw[List.set_append_right _ _ (by omega),d,Nat.sub_self,aE a t k c,zB,zG,c,List.map_append];simp
theorem mr(x:Tp.Nd)(v kv cb ct:Value)(n i u:Nat)(b4 fE:NS)(d:List Nat)(w:World)(H:yN w b4 v n i x kv cb)(da:yx x)(S:w.heap[u]? =W (J #[V I 0,v,ct] 319 (0,0)))(c9:Row w fE n ct (xP d))(ep:d.length=n)(cf:∀k∈Tp.kidsOf x,k < n)(d0:∀L∈d,L<=1000000)(bR:Glob w)(z:∀d3∈Tp.keysOf x,x8 d3=true/\d3.s.length<=1000)
(dv:(commas ((Tp.keysOf x).map Tp.scText)).length<=1000000)(b9:(commas ((Tp.kidsOf x).map λk=>Tp.itoa ((d.getD k 0:Nat):Int))).length<=1000000):
 Calls π 245 #[Z (W ⟨u,0,O⟩),V I (i:Int)] w λe w'=>e=ρ (yM (Tp.say d x))/\Below w.heap.size w w':=by
 have ch:Tp.say d x=(x.k,x.x,commas ((Tp.keysOf x).map Tp.scText),commas ((Tp.kidsOf x).map λk=>Tp.itoa ((d.getD k 0:Nat):Int))):=by
  unfold Tp.say commas;simp[List.flatMap_map]
 have ge:=lt_of_heap S;have d2:∀j o cap,v=Y (W ⟨j,o,O⟩) n cap->j < w.heap.size:=λj o cap e=>by
  obtain⟨dj,gJ,g8,f3,c,_⟩:=H.cells;rw[f3]at e;injection e with e1 e2 e3;injection e1 with e1;injection e1 with e1 e4;subst e1;exact c
 obtain⟨g,cv⟩:∃g,Tp.kidsOf x=g:=⟨_,rfl⟩;have ab:Below w.heap.size w (w.alloc (J #[V I 0,V I 0,V I 0,U ⟨#[]⟩,U ⟨#[]⟩,U ⟨#[]⟩] 387)):=(ζ _ w).alloc (η _) _;have cS:=af w (J #[V I 0,V I 0,V I 0,U ⟨#[]⟩,U ⟨#[]⟩,U ⟨#[]⟩] 387);have a3:=jd 0 x v kv cb n i b4 _ (H.below ab) da;have ck:=λb (c:Below w.heap.size w b)=>kC x v kv cb ct n i u b4 b (H.below c) da ((c.block _ (lt_of_heap S)).trans S) (bR.step c) z dv;have a0:=λb ca (c:Below w.heap.size w b) (c2:Row b (λ_=>True) (g.map λk=>d.getD k 0).length ca (xP (g.map λk=>d.getD k 0)))=>pV (g.map λk=>d.getD k 0) ca (λ_=>True) b c2 (bR.step c) (λL e9=>by
  obtain⟨k,_,rfl⟩:=List.mem_map.1 e9;rcases Nat.lt_or_ge k d.length with c|c
  ·rw[zY,zE c];exact d0 _ (List.getElem_mem c)
  ·rw[zY,List.getElem?_eq_none c];simp) (by rw[List.map_map];rw[cv]at b9;exact b9)
 rw[cv]at cf a3 ch;rw[ch];unfold yM;have ef:(g.map λk=>d.getD k 0).map (λk=>Tp.itoa ((k:Nat):Int))=g.map λk=>Tp.itoa ((d.getD k 0:Nat):Int):=by rw[List.map_map];rfl
 rw[ef]at a0;obtain⟨en,cT⟩:∃T,xR (commas ((Tp.keysOf x).map Tp.scText))=U T:=⟨_,rfl⟩;obtain⟨ei,bw⟩:∃T,xR (commas (g.map λk=>Tp.itoa ((d.getD k 0:Nat):Int)))=U T:=⟨_,rfl⟩;obtain⟨y,c6⟩:∃y,xR x.x.s=U y:=⟨_,rfl⟩;rw[cT]at ck;rw[bw]at a0;rw[cT,bw,c6];have c0:=λb (c:Below w.heap.size w b)=>(H.below c).cells;rw[c6]at c0;have a4:=λb (c:Below w.heap.size w b)=>(c.block _ (lt_of_heap S)).trans S;have dA:=λb (c:Below w.heap.size w b)=>c9.below c;have hd:=H.lt;obtain⟨e7,X,rfl,_⟩:∃a L,v=Y a n L/\True:=by obtain⟨j,o,cap,e,_⟩:=H.cells;exact⟨_,_,e,trivial⟩
 obtain⟨gx,gg,rfl,_⟩:=c9.form;obtain⟨m,db⟩:∃m,g.length=m:=⟨_,rfl⟩;rw[db]at a3;obtain⟨c1,b1⟩:∃q,w.heap.size=q:=⟨_,rfl⟩;rw[b1]at cS;have a9:(w.alloc (J #[V I 0,V I 0,V I 0,U ⟨#[]⟩,U ⟨#[]⟩,U ⟨#[]⟩] 387)).cell? ⟨u,0,O⟩=W (V I 0):=ae (a4 _ ab) 0;have f0:(w.alloc (J #[V I 0,V I 0,V I 0,U ⟨#[]⟩,U ⟨#[]⟩,U ⟨#[]⟩] 387)).cell? ⟨u,1,O⟩=W (Y e7 n X):=ae (a4 _ ab) 1;obtain⟨an,d1,e5,fG,ej,a6⟩:=zx6 db a3 ck a0 c0 a4;obtain⟨d5,ao,bs,dc,f1,f7⟩:=zx6 dA ab cS b1 cf ep;have fL:=zD d2;clear d2 H da S c9 ep cf d0 bR z dv b9 ch cv ab cS a3 ck a0 ef cT bw c6 c0 a4 dA db;generalize x.k=R at *;generalize x.x.k=M at *;generalize x.x.n=N at *
 go_enter func245,ntmps245
 go_upto_region 1 with (fail)
 generalize (w.alloc (J #[V I 0,V I 0,V I 0,U ⟨#[]⟩,U ⟨#[]⟩,U ⟨#[]⟩] 387))=a5 at *;clear b1
 go_wp2_with fail
 refine d1.out.mono ?_;rintro e fS ⟨⟨ca,rfl,fT⟩,ex⟩;obtain⟨base,ds,ac⟩:=fT;have cl:=az ac;obtain⟨a2,E,rfl,fs⟩:=cl.form;have f2:E<=maxLen:=by obtain⟨_,_,_,_,c,be,_⟩:=cl;injection c with _ _ h3;subst h3;exact be.2
 have eq:m=0\/∃j,a2=W ⟨j,0,O⟩/\a5.heap.size<=j/\(m<=E/\E<=maxLen)/\PR fS j (xP (zo d g 0)):=by
  rcases Nat.eq_zero_or_pos m with c|c
  ·exact .inl c
  ·right
   rcases ac.2 with ⟨cc,el⟩|⟨dj,gk,ga,cc,be,_⟩
   ·injection cc with be h2 h3
    omega
   ·injection cc with h2 h3 h4
    subst h2;refine⟨dj,rfl,Nat.le_trans ds be,ja ac,?_⟩;have:zo d g 0=g:=by simp[zo]
    rw[this];exact bK ac
 obtain⟨b8,bb⟩:=zx2 eq ex;unfold maxLen at fs;clear cl ac ds eq ex d1 a9 f0;have gl:=bb.out.size
 go_wp2_with fail
 go_loopw [20] (λb2 wr=>∃t:Nat,b2=V I (t:Int)/\t<=m/\(m=0\/∃j,a2=W ⟨j,0,O⟩/\a5.heap.size<=j/\(m<=E/\E<=maxLen)/\PR wr j (xP (zo d g t)))/\Below a5.heap.size a5 wr) (λb2 _=>m - (Lib.intOf b2).toNat)
 case atStart=>exact⟨0,rfl,z_ _,b8.out,bb.out⟩
 case round=>
  obtain⟨t,rfl,gN,ba,F⟩:=hrel;by_cases dp:t < m
  ·obtain⟨j,rfl,er,bx,C⟩:=ba.resolve_left (by omega)
   obtain⟨k,z⟩:∃k,g[t]? =W k:=⟨_,zE (by rw[an.out];exact dp)⟩;have df:=f1.out k (zL z);obtain⟨bq,co⟩:∃L,d[k]? =W L:=⟨_,zE (by rw[f7.out];exact df)⟩;have s:=ao.out.trans (F.mono ao.out.size);obtain⟨hb,g2,gr,f6,_,_,g7⟩:=(d5.out wr s).nat co;injection f6 with e81 e82 e83;clear e82;subst e81 e83;have a9:=zF (a6.out wr s) 2 rfl;have ha:wr.cell? ⟨j,t,O⟩=W (V I (k:Int)):=C.cell (by unfold xP;rw[List.getElem?_map,uZ d g t k z];rfl);have fY:=C.frozen t;have fc:(t:Int) < (m:Int):=by omega
   have g6:(0:Int)<=(t:Int):=by omega
   have e0:(k:Int) < (n:Int):=by omega
   have f9:(0:Int)<=(k:Int):=by omega
   have dC:Far (·=j) wr (wr.setCell ⟨j,t,O⟩ (V I (bq:Int))):=Far.setCell (D:=(·=j)) (ξ _ _) (p:=⟨j,t,O⟩) (λ_=>rfl) _;have b0:=aQ C t (V I (bq:Int));have dr:(xP (zo d g t)).set t (V I (bq:Int))=xP (zo d g (t+1)):=by
    rw[<-qn d g t k z,zY,co];unfold xP;rw[List.map_set];rfl
   rw[dr]at b0;have eg:=F.trans (dC.to_below F.size (λi g3 e=>by omega));obtain⟨e8,f8⟩:=zx2 b0 eg;clear C ba F z co s dC b0 dr eg b8 bb df
   go_wp2_with fail
   go_roundw
   case rel=>exact⟨t+1,by go_num,dp,.inr ⟨j,rfl,er,bx,e8.out⟩,f8.out⟩
   case measure=>simp[Lib.intOf];omega
  ·obtain rfl:t=m:=by omega
   have fc:¬(t:Int) < (t:Int):=by omega
   have s:=ao.out.trans (F.mono ao.out.size);have dW:Row wr (λ_=>True) (g.map λk=>d.getD k 0).length (Y a2 t E) (xP (g.map λk=>d.getD k 0)):=by
    have fn:zo d g t=g.map λk=>d.getD k 0:=by unfold zo;rw[zR (by rw[an.out];omega),List.drop_of_length_le (by rw[an.out];omega),List.append_nil]
    rw[List.length_map,an.out];rcases ba with el|⟨j,rfl,er,bx,C⟩
    ·subst el
     rw[List.length_eq_zero_iff.1 an.out];exact⟨a2,0,0,E,rfl,⟨z_ _,f2⟩,λc=>absurd rfl c,λc=>absurd rfl c⟩
    ·rw[fn]at C
     exact⟨_,j,0,E,rfl,bx,λ_=>trivial,λ_=>⟨rfl,C.lt,λi g4 fz=>by rw[Nat.zero_add];exact C.cell fz⟩⟩
   obtain⟨f,l,hc,fu,gO,fR,fr,e6,c3,c4,c5⟩:=ej.out wr s;injection fu with e91 e92 e93;clear e92;subst e91 e93;have a9:=zF (a6.out wr s) 1 rfl;have gR:=lt_of_heap (a6.out wr s);have bk:¬f=c1:=by have:=fL.out f l X rfl;have:=dc.out;omega
   have fX:¬u=c1:=by have:=dc.out;omega
   have d4:(λb=>b.cell? ⟨u,1,O⟩=W (Y (W ⟨f,l,O⟩) n X)/\b.cell? ⟨f,l+i * 6,O⟩=W (V I R)/\b.cell? ⟨f,l+i * 6+1,O⟩=W (V I M)/\b.cell? ⟨f,l+i * 6+2,O⟩=W (V I N)/\b.cell? ⟨f,l+i * 6+3,O⟩=W (U y)) wr:=⟨a9,fR,fr,e6,c3⟩;have av:Far xO wr wr.drew:=(ξ _ wr).drew;have dm:Below w.heap.size w wr.drew:=s.trans (av.to_below (by have:=s.size;omega) (λ_ _ e=>e));have b5:∀b cm:World,Far xO b cm->(λb=>b.cell? ⟨u,1,O⟩=W (Y (W ⟨f,l,O⟩) n X)/\b.cell? ⟨f,l+i * 6,O⟩=W (V I R)/\b.cell? ⟨f,l+i * 6+1,O⟩=W (V I M)/\b.cell? ⟨f,l+i * 6+2,O⟩=W (V I N)/\b.cell? ⟨f,l+i * 6+3,O⟩=W (U y)) b->(λb=>b.cell? ⟨u,1,O⟩=W (Y (W ⟨f,l,O⟩) n X)/\b.cell? ⟨f,l+i * 6,O⟩=W (V I R)/\b.cell? ⟨f,l+i * 6+1,O⟩=W (V I M)/\b.cell? ⟨f,l+i * 6+2,O⟩=W (V I N)/\b.cell? ⟨f,l+i * 6+3,O⟩=W (U y)) cm:=λb cm ad c=>⟨ad.at c.1 id,ad.at c.2.1 id,ad.at c.2.2.1 id,ad.at c.2.2.2.1 id,ad.at c.2.2.2.2 id⟩;have dJ:=(F.block _ (lt_of_heap bs.out)).trans bs.out;have e0:(i:Int) < (n:Int):=by omega
   have f9:(0:Int)<=(i:Int):=by omega
   have eM:=zD (dW.far av (λ_ _ _ e=>e));obtain⟨b3,es⟩:=zx2 dm b5;have dg:=zD (b5 _ _ av d4);have f4:=zD (av.heap dJ id);clear ba F s dW dm b5 av d4 b8 bb c4 c5 dJ ej a6 d5 ao bs
   go_upto_region 7 with (fail)
   refine wp_region_noPanic ?_;refine ar (λb=>b.cell? ⟨u,1,O⟩=W (Y (W ⟨f,l,O⟩) n X)/\b.cell? ⟨f,l+i * 6,O⟩=W (V I R)/\b.cell? ⟨f,l+i * 6+1,O⟩=W (V I M)/\b.cell? ⟨f,l+i * 6+2,O⟩=W (V I N)/\b.cell? ⟨f,l+i * 6+3,O⟩=W (U y)) [] (by kernel_rfl) ?_;refine aJ (by kernel_rfl) (λ_ _ _ _ c=>c) dg.out 4 [0,1,2,3,4,5,6,7,8,9,10,11,12,13,14,15,16,17,18,19,21] _ _ (by kernel_rfl) ?_;iterate 21 (refine Ei ?_;(try go_frame))
   refine xT.done ?_;try dsimp only
   refine aq [20] ?_;refine aj rfl (λK r=>?_) xQ.nil
   go_simp
   refine(e5.out _ b3.out).mono ?_;rintro e fl ⟨rfl,al⟩;have bn:=es.out _ _ (Far.of_below al xO) dg.out;have dl:=(Far.of_below al xO).heap f4.out id;have a1:=b3.out.trans (al.mono b3.out.size);have d6:=eM.out.below al;refine r.out _ _ (λ_=>bn) ?_;clear r K
   (try go_frame)
   refine aq [22] ?_;refine aj rfl (λK r=>?_) xQ.nil
   go_simp
   refine(fG.out fl _ a1 d6).mono ?_;rintro e gQ ⟨rfl,bm⟩;have A:=es.out _ _ (Far.of_below bm xO) bn;have bD:=(Far.of_below bm xO).heap dl id;have b6:=a1.trans (bm.mono a1.size);refine r.out _ _ (λ_=>A) ?_;clear r K bn dl a1 d6 al bm
   (try go_frame)
   refine aq [23] ?_;refine aj rfl (λK r=>?_) xQ.nil
   go_simp
   refine r.out _ _ (λ_=>A) ?_;clear r K
   (try go_frame)
   obtain⟨gf,g5,gb,gZ,gj,gM,fY,g0,gc,he,gd,g1⟩:=pE bD;have ft:=xL bD (V I R) (V I M) (V I N) (U y) (U en) (U ei);refine aq [24] ?_;refine aj rfl (λK r=>?_) xQ.nil
   go_simp
   obtain⟨ek,G⟩:=ft;have di:=θ (G.at A.1 fX) (θ (G.at A.2.1 bk) (θ (G.at A.2.2.1 bk) (θ (G.at A.2.2.2.1 bk) (G.at A.2.2.2.2 bk))));have dn:=b6.trans (G.to_below b6.size (λk z e=>by have:=dc.out;omega));obtain⟨f5,fv⟩:=zx2 ek dn;refine r.out _ _ (λ_=>di) ?_;clear r K di A G bD b6 ek dn
   (try go_frame)
   refine aP (by kernel_rfl) (NoPanic.normal ?_) _
   go_wp2_with fail
   exact bodyPost_ret (v:=γ #[V I R,V I M,V I N,U y,U en,U ei]) (by
    have fw:=run_loadVar_row (P:=π) _ c1 387 387 _ (0,0) _ f5.out underlying387 rfl (by kernel_rfl);have c2:f245.results=#[ResultVar.cell 4 387]:=rfl;simp[results,c2,asAddr,fw,Sem.run_bind,Result.andThen]) rfl ⟨rfl,fv.out⟩
end
end Go.Proofs.YtbikgdhbiebhcaaGreatDoor
