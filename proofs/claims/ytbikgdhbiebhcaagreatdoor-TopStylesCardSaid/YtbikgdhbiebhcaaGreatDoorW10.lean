/- Part 10. -/
import Derived.Test.YtbikgdhbiebhcaaGreatDoorW09
set_option linter.unusedVariables false
set_option linter.unusedSimpArgs false
set_option maxRecDepth 100000
set_option maxHeartbeats 2000000
open Go.Value renaming int -> V, string -> U, slice -> Y, pointer -> Z, func -> φ, agg -> γ, bool -> β
open Go.IntKind renaming i64 -> I
open Option renaming some -> W, none -> O
open Go.Obj renaming cells -> J
open Go.Ending renaming returned -> ρ
open Go.Proofs.Tryz renaming prog -> π
open Nat renaming le_refl -> η
open And renaming intro -> θ
open Go.RowKit.Below renaming refl -> ζ
namespace Go.Proofs.YtbikgdhbiebhcaaGreatDoor
open Go.RowKit Tryz
section
attribute [local go_sem] ak
theorem kC(x:Tp.Nd)(v kv bn dv:Value)(n i bx:Nat)(bb:NS)(w0:World)(ao:yN w0 bb v n i x kv bn)(cb:yx x)(b9:w0.heap[bx]? =some (J #[V I 0,v,dv] 319 (0,0)))(q:Glob w0)(f:∀bD∈Tp.keysOf x,x8 bD=true/\bD.s.length<=1000)(u:(commas ((Tp.keysOf x).map Tp.scText)).length<=1000000):
 Calls π 275 #[Z (some ⟨bx,0,O⟩),V I (i:Int)] w0 λe w'=>e=ρ (xR (commas ((Tp.keysOf x).map Tp.scText)))/\Below w0.heap.size w0 w':=by
 have L:=bS 0 x v kv bn n i bb w0 ao cb;obtain⟨d6,d4,rfl,_⟩:∃a c0,v=Y a n c0/\True:=by obtain⟨eg,o,cap,e,_⟩:=ao.cells;exact⟨_,_,e,trivial⟩
 obtain⟨co,df,d0,_⟩:=bv b9;obtain⟨m,b4⟩:∃m,Tp.keysOf x=m:=⟨_,rfl⟩;rw[b4]at L f u ⊢;obtain⟨LS,H⟩:∃LS,m.map Tp.scText=LS:=⟨_,rfl⟩;have p:∀(t:Nat) (k:Tp.Sc),m[t]? =some k->LS[t]? =some (Tp.scText k):=λt k F=>by rw[<-H,List.getElem?_map,F];rfl
 have ad:LS.length=m.length:=by rw[<-H];simp
 rw[H]at u ⊢;obtain⟨j,a0⟩:∃j,m.length=j:=⟨_,rfl⟩;rw[a0]at ad L;obtain⟨d5,ac⟩:∃T,xR (commas LS)=T:=⟨_,rfl⟩;rw[ac];have b1:=zD (θ a0 ad);obtain⟨c6,da,dn,b2,bs⟩:=zx5 p f u L q;clear q f u p H a0 ad L ao cb b9 b4
 go_enter func275,ntmps275
 go_wp2_with fail
 refine b2.out.mono ?_;rintro e w ⟨⟨ex,rfl,an⟩,N⟩;obtain⟨c5,c1,rfl,c9⟩:=an.form;have q:=bs.out.step N;have be:=q.1;unfold maxLen at c9;obtain⟨c,A⟩:∃c,w.heap.size=c:=⟨_,rfl⟩;have a2:=N.size;have g:=bo w;have b:Below w.heap.size w (w.alloc (J #[Z O,Y O 0 0] 38)):=(ζ _ w).alloc (η _) _;have a1:=(an.mono (G':=λk=>k < c) (λk _ f=>by rw[<-A];exact f)).below b;have ch:(w.alloc (J #[Z O,Y O 0 0] 38)).heap.size=c+1:=by simp[A]
 rw[A]at g be a2;obtain⟨b5,dc,ba⟩:=zx3 a1 b g;have cl:=zD (q.step b);obtain⟨d1,dp⟩:=zx2 A N;clear an q a1 b g N b2 bs co df d0
 go_wp2_with fail
 generalize (w.alloc (J #[Z O,Y O 0 0] 38))=e3 at *
 go_loopw [23] (λX wr=>∃t:Nat,X=V I (t:Int)/\t<=j/\Lib.IsBuilderF 38 5 c c (Lib.byteCells (commas (LS.take t))) wr/\Row wr (λk=>k < c) j (Y c5 j c1) (xV m)/\Below c w wr/\Glob wr/\c+1<=wr.heap.size) (λX _=>j - (Lib.intOf X).toNat)
 case atStart=>exact⟨0,rfl,z_ _,ba.out,b5.out,by rw[<-d1.out];exact dc.out,cl.out,by omega⟩
 case round=>
  obtain⟨t,rfl,es,g,M,G,C,u⟩:=hrel;by_cases a9:t < j
  ·obtain⟨k,f⟩:∃k,m[t]? =some k:=⟨_,zE (by rw[b1.out.1];exact a9)⟩
   obtain⟨l,bR⟩:∃l,Tp.scText k=l:=⟨_,rfl⟩;have R:=da.out k (zL f);obtain⟨SX,P⟩:∃d,xR k.s=U d:=⟨_,rfl⟩;have al:Below wr.heap.size wr (wr.alloc (J #[V I k.k,V I k.n,U SX] 30)):=(ζ _ wr).alloc (η _) _;have r:=eb k R.2 R.1 (wr.alloc (J #[V I k.k,V I k.n,U SX] 30)) (C.step al);unfold scV at r;rw[P]at r;obtain⟨c4,dr,cm,_⟩:=bv (af wr (J #[V I k.k,V I k.n,U SX] 30));have p:=c6.out t k f;rw[bR]at r p;have cf:=gt LS t l p;have y:=gs LS t l p;have db:=dn.out;obtain⟨e7,er,e1,cv,_,eq,ds,ct,bw⟩:=M.sc f;rw[P]at bw;injection cv with e11 e12 e13;clear e12;subst e11 e13;obtain⟨d,av⟩:∃d,xR l=U d:=⟨_,rfl⟩;have a6:(⟨l.toArray⟩:ByteArray)=d:=by injection av
   have e4:d.size=l.length:=by rw[<-a6];rfl
   rw[av]at r;have e6:(d++(⟨#[44]⟩:ByteArray)).size<=maxLen:=by rw[zX];unfold maxLen;show d.size+1<=_;omega
   have en:d.size+1<=maxLen:=by unfold maxLen;omega
   have d3:d.size+1<=9223372036854775807:=by omega
   have e0:¬9223372036854775807 < d.size+1:=by omega
   have b8:Lib.byteCells (commas (LS.take t))++Lib.strCells (d++(⟨#[44]⟩:ByteArray))=Lib.byteCells (commas (LS.take (t+1))):=by
    rw[y,Lib.byteCells_append,<-a6];congr 1
    try (unfold Lib.strCells Lib.byteCells;simp)
   have ab:=λW (F:Below wr.heap.size wr W)=>fa c c _ (d++(⟨#[44]⟩:ByteArray)) W (cE g F) (by rw[zX,Lib.byteCells_length];have:(⟨#[44]⟩:ByteArray).size=1:=rfl;omega) (by have:=F.size;omega);rw[b8]at ab;have c2:(t:Int) < (j:Int):=by omega
   have e5:(0:Int)<=(t:Int):=by omega
   obtain⟨bm,b0,z,ca,a4,ck⟩:=zx6 ab M G r C al;clear al P ab b8 g M G av bR p cf y r C f R db
   go_wp2_with fail
   refine ca.out.mono ?_;rintro e w5 ⟨rfl,b6⟩;have s:=zD (cR ck.out b6);clear b6 ca c4 dr cm ds ct bw
   go_wp2_with fail
   refine(bm.out _ s.out).mono ?_;rintro e S ⟨rfl,a3,b,_⟩;have ch:=b.size;have ei:=s.out.size;have b3:=(b0.out.below s.out).far (D:=λk=>c<=k) ⟨b.os,b.tape,b.output,b.size,λi e2 d2=>b.block i (Nat.lt_of_not_le d2)⟩ (λk f _ e=>by omega);have bk:=z.out.trans ((s.out.mono (by omega)).trans b);have a5:Glob S:=(a4.out.step s.out).keep b be;have E:=zD (θ (show Lib.IsBuilderF 38 5 c c _ S from .inr a3) (θ b3 (θ bk a5)));clear a3 b b3 bk a5 bm b0 z s a4
   go_wp2_with fail
   go_roundw
   case rel=>exact⟨t+1,by go_num,a9,E.out.1,E.out.2.1,E.out.2.2.1,E.out.2.2.2,by omega⟩
   case measure=>simp[Lib.intOf];omega
  ·obtain rfl:t=j:=by omega
   have c2:¬(t:Int) < (t:Int):=by omega
   rw[zR (by rw[b1.out.2];omega)]at g;have y:=Tryz.Builder_String_any_f c c _ wr g (by omega);obtain⟨cc,z⟩:=zx2 y G;clear y G g M C ba b5
   go_wp2_with fail
   refine cc.out.mono ?_;rintro e S ⟨rfl,_,b⟩;have c3:=z.out.trans b;clear b cc z;unfold xR at ac;rw[ac]
   go_wp2_with fail
   go_ret
   exact⟨rfl,dp.out.trans (c3.mono a2)⟩
end
def AB(w w':World)(a:Value)(n:Nat)(b:List Value):Prop:=∃base,w.heap.size<=base/\w'.ownsRow base 3 1 a n b
theorem AB.mono{w0 w w':World}{a:Value}{n:Nat}{b:List Value}(c:AB w w' a n b)(g:w0.heap.size<=w.heap.size):AB w0 w' a n b:=by
 obtain⟨e,f,d⟩:=c;exact⟨e,Nat.le_trans g f,d⟩
theorem mB(F:Int)(x:Tp.Nd)(v kv S:Value)(n i:Nat)(M:NS)(w:World)(b:yN w M v n i x kv S)(a0:yx x)(b0:x.k≠1):Calls π 87 #[γ #[V I F,v],V I (i:Int)] w λe w'=>(∃R,e=ρ (.tuple #[R,V I 0])/\AB w w' R (Tp.pairs x).length ((Tp.pairs x).flatMap pkid))/\Below w.heap.size w w':=by
 obtain⟨cl,c0,cf,c3,ct⟩:=info_parts gI;obtain⟨a,a5,b6,dp⟩:∃a a5,v=Y a n a5/\True:=by obtain⟨db,o,cap,e,_⟩:=b.cells;exact⟨_,_,e,trivial⟩
 have C:Below w.heap.size w (w.alloc (J #[V I F,v] 54)):=(ζ _ _).alloc (η _) _;have A:=cj F M v kv S n i x _ (b.below C);have y:=λW (q:Below w.heap.size w W)=>cA x kv S n M W ((b.below q).key) ((b.below q).kid) a0;obtain⟨N,ao,rfl,_⟩:=b.key.form;obtain⟨ac,D,rfl,_⟩:=b.kid.form;subst b6;unfold yH at A y;obtain⟨c,b3⟩:∃c,xR x.x.s=U c:=⟨_,rfl⟩;rw[b3]at A y;have a3:(Tp.pairs x).length < 20:=by
  unfold Tp.pairs;split
  ·rw[<-ce,cg,List.length_zip];have:=a0.1;omega
  ·simp
 obtain⟨a6,E,ba⟩:=zx3 A y C;obtain⟨P,bD⟩:∃P,Tp.pairs x=P:=⟨_,rfl⟩;rw[bD]at a3 E ⊢;have ei:¬x.k=1:=b0;clear A y C b b3 a0 bD b0
 go_enter func87,ntmps87
 go_wp2_with fail
 refine a6.out.mono ?_;rintro e z ⟨rfl,b4⟩;have G:=cR ba.out b4;have bk:Below w.heap.size w (z.alloc (J #[V I x.k,V I x.x.k,V I x.x.n,U c,Y N x.keys.length ao,Y ac x.kids.length D,V I (n:Int)] 256)):=G.alloc G.size _;have s:=zD bk;clear b4 G bk a6 ba
 go_upto_region 2 with (fail)
 have bR:=af z (J #[V I x.k,V I x.x.k,V I x.x.n,U c,Y N x.keys.length ao,Y ac x.kids.length D,V I (n:Int)] 256);obtain⟨a4,bx,b1,bn,a1,a9,b2,_⟩:=bd bR;obtain⟨bb,q⟩:∃bb,z.heap.size=bb:=⟨_,rfl⟩;rw[q]at a4 bx b1 bn a1 a9 b2 ⊢;clear bR;generalize (z.alloc (J #[V I x.k,V I x.x.k,V I x.x.n,U c,Y N x.keys.length ao,Y ac x.kids.length D,V I (n:Int)] 256))=d3 at *;clear q
 go_wp2_with fail
 refine(E.out _ (by first|exact s.out)).mono ?_;rintro e d ⟨⟨R,rfl,ad⟩,bw⟩;obtain⟨dr,da,rfl,_⟩:=ad.form;have av:=s.out.trans (bw.mono s.out.size);obtain⟨T,X⟩:=zx2 ad av;have dv:=av.size;have d6:=s.out.size;clear ad bw av E s a4 bx b1 bn a1 a9 b2;obtain⟨g,b5⟩:∃g,P.length=g:=⟨_,rfl⟩;rw[b5]at a3 T ⊢
 go_wp2_with fail
 go_loopw [8,33] (λc1 L wr=>∃(t:Nat) (r:Option Addr) (m u:Nat),c1=Y r m u/\t<=g/\L=V I (t:Int)/\wr.ownsRow d.heap.size 3 1 (Y r m u) t ((P.take t).flatMap pkid)/\Below d.heap.size d wr) (λ_ L _=>g - (Lib.intOf L).toNat)
 case atStart=>exact⟨0,_,_,_,rfl,z_ _,rfl,World.ownsRow_nil _ _ _ _,ζ _ _⟩
 case round=>
  obtain⟨t,r,m,u,rfl,ds,rfl,l,f⟩:=hrel;by_cases cc:t < g
  ·obtain⟨p,an⟩:∃p,P[t]? =some p:=⟨_,zE (by rw[b5];exact cc)⟩
   obtain⟨es,dn,d1,b9,df,er,eg,b8,d0⟩:=(T.out.below f).pc an;injection b9 with e11 e12 e13;subst e11 e13;obtain⟨SX,H⟩:∃c,xR p.1.s=U c:=⟨_,rfl⟩;rw[H]at b8;have bs:(P.take (t+1)).flatMap pkid=(P.take t).flatMap pkid++[V I (p.2:Int)]:=by
    rw[zG,an,List.flatMap_append];simp[pkid,H]
   have cb:(t:Int) < (g:Int):=by omega
   have d5:(0:Int)<=(t:Int):=by omega
   have bm:Below d.heap.size d ((wr.alloc (J #[V I p.1.k,V I p.1.n,U SX,V I (p.2:Int)] 262)).alloc (J #[V I (p.2:Int)] 3)):=(f.alloc f.size _).alloc (by have:=f.size;simp;omega) _;have a2:=aw (aw l ((ξ xO _).alloc (J #[V I p.1.k,V I p.1.n,U SX,V I (p.2:Int)] 262)) (λ_ _ _ e=>e)) ((ξ xO _).alloc (J #[V I (p.2:Int)] 3)) (λ_ _ _ e=>e);have be:=l.lt;obtain⟨cm,al,ck,cv⟩:=zx4 a2 bm be bs;clear l a2 bm f an H be bs
   go_wp2_with (at_builtin;refine wpList_append_own _ rfl (.tmp 37) (.tmp 40) 122 rfl d.heap.size 3 cl _ 1 8 underlying122 c0 cf c3 ct rfl (by decide) (Y r m u) t _ rfl cm.out ⟨wr.heap.size+1,0,O⟩ 1 1 [V I (p.2:Int)] rfl rfl (λj d4 ca=>by rw[gK];exact(ae (ah _ _ _ (by simp)) j).trans (by simpa using ca)) (by simp[Value.oneCell']) (by unfold maxLen;omega) (by omega) (Nat.le_trans al.out.size (η _)) ?_;intro en w5 ab c5 _)
   obtain⟨gg,cap,rfl,d2,_⟩:=aA ab;rw[<-cv.out]at ab;have c4:=al.out.grown c5 al.out.size (λk e=>(ck.out k e).1)
   go_roundw
   case rel=>exact⟨t+1,_,_,_,rfl,by omega,by go_num,ab,c4⟩
   case measure=>simp[Lib.intOf];omega
  ·obtain rfl:t=g:=by omega
   have cb:¬(t:Int) < (t:Int):=by omega
   rw[zR (by omega)]at l;have ch:m=t:=by
    rcases l.2 with ⟨b,eq⟩|⟨c6,dc,c9,b,_⟩
    ·injection b with h1 h2 h3
     omega
    ·injection b
   subst ch;have co:RowKit.Hid (AB w wr (Y r m u) m (P.flatMap pkid)):=zD ⟨d.heap.size,by omega,l⟩;have c2:=zD (X.out.trans (f.mono X.out.size));clear l f T X
   go_wp2_with fail
   go_ret2
   exact⟨⟨_,rfl,co.out⟩,c2.out⟩
theorem oS(z:Int)(x:Tp.Nd)(v kv R:Value)(n i:Nat)(L:NS)(w:World)(b:yN w L v n i x kv R)(a1:yx x)(ab:x.k=1):Calls π 87 #[γ #[V I z,v],V I (i:Int)] w λe w'=>(∃l,e=ρ (.tuple #[l,V I 0])/\AB w w' l x.kids.length (xP x.kids))/\Below w.heap.size w w':=by
 obtain⟨a,E,a2,b6⟩:∃a E,v=Y a n E/\True:=by obtain⟨b2,o,cap,e,_⟩:=b.cells;exact⟨_,_,e,trivial⟩
 have y:Below w.heap.size w (w.alloc (J #[V I z,v] 54)):=(ζ _ _).alloc (η _) _;have r:=cj z L v kv R n i x _ (b.below y);obtain⟨C,D,rfl,_⟩:=b.key.form;have ac:=b.kid;obtain⟨q,f,rfl,_⟩:=b.kid.form;subst a2;have a0:∀c,Below w.heap.size w c->Calls π 123 #[Y q x.kids.length f] c λe w'=>(∃l,e=ρ l/\AB c w' l x.kids.length (xP x.kids))/\Below c.heap.size c w':=by
  intro c k;have H:=ac.below k;rcases Nat.eq_zero_or_pos x.kids.length with u|u
  ·rw[u,List.length_eq_zero_iff.1 u]
   cases q with
   |none=>exact(slices_Clone_int_nil 0 f c).mono (λe w' b=>⟨⟨_,b.1,⟨_,η _,World.ownsRow_nil _ _ _ _⟩⟩,by rw[b.2];exact ζ _ _⟩)
   |some ad=>exact(slices_Clone_int_zero ad f c).mono (λe w' b=>by obtain⟨bs,rfl,s,_,k⟩:=b;exact⟨⟨_,rfl,⟨_,η _,s⟩⟩,k⟩)
  ·obtain⟨b5,bn⟩:∃bD,x.kids[0]? =W bD:=⟨_,zE u⟩
   obtain⟨g,o,cap,e,_,b4,_⟩:=H.nat bn;injection e with d e2 e3;subst d e3;refine(slices_Clone_int g o x.kids.length f (x.kids.map λi:Nat=>(i:Int)) c (by simp) (by have:=a1.2.2;omega) (λj a5=>?_)).mono (λe w' b=>?_)
   ·have al:j < x.kids.length:=by simpa using a5
    obtain⟨b0,b8,b3,bx,_,_,a6⟩:=H.nat (i:=j) (x:=x.kids[j]) (zE al);injection bx with d e2 e3;injection d with d;injection d with d e4;subst d e4;rw[a6];simp[al,zY]
   ·obtain⟨bs,rfl,s,_,bb⟩:=b
    have d:((x.kids.map λi:Nat=>(i:Int)).take x.kids.length).map (Value.int I)=xP x.kids:=by
     rw[zR (by simp),List.map_map];rfl
    rw[d]at s;exact⟨⟨_,rfl,⟨_,η _,s⟩⟩,bb⟩
 unfold yH at r;obtain⟨m,ao⟩:∃m,xR x.x.s=U m:=⟨_,rfl⟩;rw[ao]at r;rw[ab]at r;obtain⟨F,an,G⟩:=zx3 r a0 y;clear r a0 y b ao a1 ac ab
 go_enter func87,ntmps87
 go_wp2_with fail
 refine F.out.mono ?_;rintro e t ⟨rfl,av⟩;have A:=cR G.out av;have N:Below w.heap.size w (t.alloc (J #[V I 1,V I x.x.k,V I x.x.n,U m,Y C x.keys.length D,Y q x.kids.length f,V I (n:Int)] 256)):=A.alloc A.size _;have p:=zD N;clear av A N F G
 go_upto_region 2 with (fail)
 have X:=af t (J #[V I 1,V I x.x.k,V I x.x.n,U m,Y C x.keys.length D,Y q x.kids.length f,V I (n:Int)] 256);obtain⟨a4,bm,bw,ba,a3,a9,bR,_⟩:=bd X;obtain⟨M,k⟩:∃M,t.heap.size=M:=⟨_,rfl⟩;rw[k]at a4 bm bw ba a3 a9 bR ⊢;clear X;generalize (t.alloc (J #[V I 1,V I x.x.k,V I x.x.n,U m,Y C x.keys.length D,Y q x.kids.length f,V I (n:Int)] 256))=b9 at *;clear k
 go_wp2_with fail
 refine(an.out _ (by first|exact p.out)).mono ?_;rintro e b1 ⟨⟨l,rfl,T⟩,P⟩;have S:=T.mono p.out.size;have bk:=zD (p.out.trans (P.mono p.out.size));have be:=zD S;clear T S P p an
 go_wp2_with fail
 go_ret2
 exact⟨⟨_,rfl,be.out⟩,bk.out⟩
theorem jd(b:Int)(x:Tp.Nd)(v kv d:Value)(n i:Nat)(c:NS)(w:World)(g:yN w c v n i x kv d)(j:yx x):Calls π 87 #[γ #[V I b,v],V I (i:Int)] w λe w'=>(∃f,e=ρ (.tuple #[f,V I 0])/\AB w w' f (Tp.kidsOf x).length (xP (Tp.kidsOf x)))/\Below w.heap.size w w':=by
 unfold Tp.kidsOf;by_cases a:x.k=1
 ·rw[if_pos a]
  exact oS b x v kv d n i c w g j a
 ·rw[if_neg a]
  have:=mB b x v kv d n i c w g j a;rw[iZ]at this;rw[List.length_map];exact this
section
attribute [local go_sem] ak
def yM(s:Tp.Say):Value:=γ #[V I s.1,V I s.2.1.k,V I s.2.1.n,xR s.2.1.s,xR s.2.2.1,xR s.2.2.2]
def zo(b a:List Nat)(t:Nat):List Nat:=(a.take t).map (λk=>b.getD k 0)++a.drop t
theorem uZ(c b:List Nat)(t k:Nat)(a:b[t]? =W k):(zo c b t)[t]? =W k:=by
 have d:=(zM.1 a).1;unfold zo;rw[zV (by simp;omega),List.length_map,List.length_take,Nat.min_eq_left (by omega),Nat.sub_self,List.getElem?_drop]
 simpa using a
theorem qn(b a:List Nat)(t k:Nat)(c:a[t]? =W k):(zo b a t).set t (b.getD k 0)=zo b a (t+1):=by
 have e:=(zM.1 c).1;have d:((a.take t).map λk=>b.getD k 0).length=t:=by simp;omega
 unfold zo;rw[List.set_append_right _ _ (by omega),d,Nat.sub_self,aE a t k c,zB,zG,c,List.map_append];simp
theorem mr(x:Tp.Nd)(v kv cc cv:Value)(n i u:Nat)(b5 gx:NS)(d:List Nat)(w:World)(H:yN w b5 v n i x kv cc)(df:yx x)(S:w.heap[u]? =W (J #[V I 0,v,cv] 319 (0,0)))(dc:Row w gx n cv (xP d))(fz:d.length=n)(ch:∀k∈Tp.kidsOf x,k < n)(es:∀L∈d,L<=1000000)(b0:Glob w)(z:∀e5∈Tp.keysOf x,x8 e5=true/\e5.s.length<=1000)
(eg:(commas ((Tp.keysOf x).map Tp.scText)).length<=1000000)(ca:(commas ((Tp.kidsOf x).map λk=>Tp.itoa ((d.getD k 0:Nat):Int))).length<=1000000):
 Calls π 245 #[Z (W ⟨u,0,O⟩),V I (i:Int)] w λe w'=>e=ρ (yM (Tp.say d x))/\Below w.heap.size w w':=by
 have ck:Tp.say d x=(x.k,x.x,commas ((Tp.keysOf x).map Tp.scText),commas ((Tp.kidsOf x).map λk=>Tp.itoa ((d.getD k 0:Nat):Int))):=by
  unfold Tp.say commas;simp[List.flatMap_map]
 have ho:=lt_of_heap S;have e0:∀j o cap,v=Y (W ⟨j,o,O⟩) n cap->j < w.heap.size:=λj o cap e=>by
  obtain⟨d0,hx,hP,hb,c,_⟩:=H.cells;rw[hb]at e;injection e with e1 e2 e3;injection e1 with e1;injection e1 with e1 e4;subst e1;exact c
 obtain⟨g,c0⟩:∃g,Tp.kidsOf x=g:=⟨_,rfl⟩;have ab:Below w.heap.size w (w.alloc (J #[V I 0,V I 0,V I 0,U ⟨#[]⟩,U ⟨#[]⟩,U ⟨#[]⟩] 387)):=(ζ _ w).alloc (η _) _;have c1:=af w (J #[V I 0,V I 0,V I 0,U ⟨#[]⟩,U ⟨#[]⟩,U ⟨#[]⟩] 387);have a3:=jd 0 x v kv cc n i b5 _ (H.below ab) df;have cl:=λb (c:Below w.heap.size w b)=>kC x v kv cc cv n i u b5 b (H.below c) df ((c.block _ (lt_of_heap S)).trans S) (b0.step c) z eg;have a0:=λb cb (c:Below w.heap.size w b) (da:Row b (λ_=>True) (g.map λk=>d.getD k 0).length cb (xP (g.map λk=>d.getD k 0)))=>pV (g.map λk=>d.getD k 0) cb (λ_=>True) b da (b0.step c) (λL f9=>by
  obtain⟨k,_,rfl⟩:=List.mem_map.1 f9;rcases Nat.lt_or_ge k d.length with c|c
  ·rw[zY,zE c];exact es _ (List.getElem_mem c)
  ·rw[zY,List.getElem?_eq_none c];simp) (by rw[List.map_map];rw[c0]at ca;exact ca)
 rw[c0]at ch a3 ck;rw[ck];unfold yM;have e9:(g.map λk=>d.getD k 0).map (λk=>Tp.itoa ((k:Nat):Int))=g.map λk=>Tp.itoa ((d.getD k 0:Nat):Int):=by rw[List.map_map];rfl
 rw[e9]at a0;obtain⟨fv,c2⟩:∃T,xR (commas ((Tp.keysOf x).map Tp.scText))=U T:=⟨_,rfl⟩;obtain⟨fn,bx⟩:∃T,xR (commas (g.map λk=>Tp.itoa ((d.getD k 0:Nat):Int)))=U T:=⟨_,rfl⟩;obtain⟨y,db⟩:∃y,xR x.x.s=U y:=⟨_,rfl⟩;rw[c2]at cl;rw[bx]at a0;rw[c2,bx,db];have c6:=λb (c:Below w.heap.size w b)=>(H.below c).cells;rw[db]at c6;have a4:=λb (c:Below w.heap.size w b)=>(c.block _ (lt_of_heap S)).trans S;have ei:=λb (c:Below w.heap.size w b)=>dc.below c;have hU:=H.lt;obtain⟨f7,X,rfl,_⟩:∃a L,v=Y a n L/\True:=by obtain⟨j,o,cap,e,_⟩:=H.cells;exact⟨_,_,e,trivial⟩
 obtain⟨hw,hq,rfl,_⟩:=dc.form;obtain⟨m,dn⟩:∃m,g.length=m:=⟨_,rfl⟩;rw[dn]at a3;obtain⟨c9,b2⟩:∃q,w.heap.size=q:=⟨_,rfl⟩;rw[b2]at c1;have a9:(w.alloc (J #[V I 0,V I 0,V I 0,U ⟨#[]⟩,U ⟨#[]⟩,U ⟨#[]⟩] 387)).cell? ⟨u,0,O⟩=W (V I 0):=ae (a4 _ ab) 0;have g7:(w.alloc (J #[V I 0,V I 0,V I 0,U ⟨#[]⟩,U ⟨#[]⟩,U ⟨#[]⟩] 387)).cell? ⟨u,1,O⟩=W (Y f7 n X):=ae (a4 _ ab) 1;obtain⟨an,ex,f5,g0,fr,a6⟩:=zx6 dn a3 cl a0 c6 a4;obtain⟨e7,ao,bw,dp,g8,hf⟩:=zx6 ei ab c1 b2 ch fz;have g1:=zD e0;clear e0 H df S dc fz ch es b0 z eg ca ck c0 ab c1 a3 cl a0 e9 c2 bx db c6 a4 ei dn;generalize x.k=R at *;generalize x.x.k=M at *;generalize x.x.n=N at *
 go_enter func245,ntmps245
 go_upto_region 1 with (fail)
 generalize (w.alloc (J #[V I 0,V I 0,V I 0,U ⟨#[]⟩,U ⟨#[]⟩,U ⟨#[]⟩] 387))=a5 at *;clear b2
 go_wp2_with fail
 refine ex.out.mono ?_;rintro e g3 ⟨⟨cb,rfl,g4⟩,f2⟩;obtain⟨base,d6,ac⟩:=g4;have cm:=az ac;obtain⟨a2,E,rfl,ge⟩:=cm.form;have ha:E<=maxLen:=by obtain⟨_,_,_,_,c,be,_⟩:=cm;injection c with _ _ h3;subst h3;exact be.2
 have fG:m=0\/∃j,a2=W ⟨j,0,O⟩/\a5.heap.size<=j/\(m<=E/\E<=maxLen)/\PR g3 j (xP (zo d g 0)):=by
  rcases Nat.eq_zero_or_pos m with c|c
  ·exact .inl c
  ·right
   rcases ac.2 with ⟨cf,ft⟩|⟨d0,hs,hj,cf,be,_⟩
   ·injection cf with be h2 h3
    omega
   ·injection cf with h2 h3 h4
    subst h2;refine⟨d0,rfl,Nat.le_trans d6 be,ja ac,?_⟩;have:zo d g 0=g:=by simp[zo]
    rw[this];exact bK ac
 obtain⟨b9,bb⟩:=zx2 fG f2;unfold maxLen at ge;clear cm ac d6 fG f2 ex a9 g7;have hu:=bb.out.size
 go_wp2_with fail
 go_loopw [20] (λb3 wr=>∃t:Nat,b3=V I (t:Int)/\t<=m/\(m=0\/∃j,a2=W ⟨j,0,O⟩/\a5.heap.size<=j/\(m<=E/\E<=maxLen)/\PR wr j (xP (zo d g t)))/\Below a5.heap.size a5 wr) (λb3 _=>m - (Lib.intOf b3).toNat)
 case atStart=>exact⟨0,rfl,z_ _,b9.out,bb.out⟩
 case round=>
  obtain⟨t,rfl,hA,ba,F⟩:=hrel;by_cases d4:t < m
  ·obtain⟨j,rfl,fR,bD,C⟩:=ba.resolve_left (by omega)
   obtain⟨k,z⟩:∃k,g[t]? =W k:=⟨_,zE (by rw[an.out];exact d4)⟩;have dr:=g8.out k (zL z);obtain⟨bs,ct⟩:∃L,d[k]? =W L:=⟨_,zE (by rw[hf.out];exact dr)⟩;have s:=ao.out.trans (F.mono ao.out.size);obtain⟨hS,hI,hv,he,_,_,hN⟩:=(e7.out wr s).nat ct;injection he with e81 e82 e83;clear e82;subst e81 e83;have a9:=zF (a6.out wr s) 2 rfl;have hR:wr.cell? ⟨j,t,O⟩=W (V I (k:Int)):=C.cell (by unfold xP;rw[List.getElem?_map,uZ d g t k z];rfl);have g6:=C.frozen t;have ga:(t:Int) < (m:Int):=by omega
   have hM:(0:Int)<=(t:Int):=by omega
   have f4:(k:Int) < (n:Int):=by omega
   have hh:(0:Int)<=(k:Int):=by omega
   have en:Far (·=j) wr (wr.setCell ⟨j,t,O⟩ (V I (bs:Int))):=Far.setCell (D:=(·=j)) (ξ _ _) (p:=⟨j,t,O⟩) (λ_=>rfl) _;have b1:=aQ C t (V I (bs:Int));have d5:(xP (zo d g t)).set t (V I (bs:Int))=xP (zo d g (t+1)):=by
    rw[<-qn d g t k z,zY,ct];unfold xP;rw[List.map_set];rfl
   rw[d5]at b1;have fl:=F.trans (en.to_below F.size (λi hJ e=>by omega));obtain⟨f8,hg⟩:=zx2 b1 fl;clear C ba F z ct s en b1 d5 fl b9 bb dr
   go_wp2_with fail
   go_roundw
   case rel=>exact⟨t+1,by go_num,d4,.inr ⟨j,rfl,fR,bD,f8.out⟩,hg.out⟩
   case measure=>simp[Lib.intOf];omega
  ·obtain rfl:t=m:=by omega
   have ga:¬(t:Int) < (t:Int):=by omega
   have s:=ao.out.trans (F.mono ao.out.size);have er:Row wr (λ_=>True) (g.map λk=>d.getD k 0).length (Y a2 t E) (xP (g.map λk=>d.getD k 0)):=by
    have gc:zo d g t=g.map λk=>d.getD k 0:=by unfold zo;rw[zR (by rw[an.out];omega),List.drop_of_length_le (by rw[an.out];omega),List.append_nil]
    rw[List.length_map,an.out];rcases ba with ft|⟨j,rfl,fR,bD,C⟩
    ·subst ft
     rw[List.length_eq_zero_iff.1 an.out];exact⟨a2,0,0,E,rfl,⟨z_ _,ha⟩,λc=>absurd rfl c,λc=>absurd rfl c⟩
    ·rw[gc]at C
     exact⟨_,j,0,E,rfl,bD,λ_=>trivial,λ_=>⟨rfl,C.lt,λi hK gr=>by rw[Nat.zero_add];exact C.cell gr⟩⟩
   obtain⟨f,l,hT,gg,hC,g2,gd,f6,c3,c4,c5⟩:=fr.out wr s;injection gg with e91 e92 e93;clear e92;subst e91 e93;have a9:=zF (a6.out wr s) 1 rfl;have hE:=lt_of_heap (a6.out wr s);have bk:¬f=c9:=by have:=g1.out f l X rfl;have:=dp.out;omega
   have g5:¬u=c9:=by have:=dp.out;omega
   have e6:(λb=>b.cell? ⟨u,1,O⟩=W (Y (W ⟨f,l,O⟩) n X)/\b.cell? ⟨f,l+i * 6,O⟩=W (V I R)/\b.cell? ⟨f,l+i * 6+1,O⟩=W (V I M)/\b.cell? ⟨f,l+i * 6+2,O⟩=W (V I N)/\b.cell? ⟨f,l+i * 6+3,O⟩=W (U y)) wr:=⟨a9,g2,gd,f6,c3⟩;have av:Far xO wr wr.drew:=(ξ _ wr).drew;have d2:Below w.heap.size w wr.drew:=s.trans (av.to_below (by have:=s.size;omega) (λ_ _ e=>e));have b6:∀b co:World,Far xO b co->(λb=>b.cell? ⟨u,1,O⟩=W (Y (W ⟨f,l,O⟩) n X)/\b.cell? ⟨f,l+i * 6,O⟩=W (V I R)/\b.cell? ⟨f,l+i * 6+1,O⟩=W (V I M)/\b.cell? ⟨f,l+i * 6+2,O⟩=W (V I N)/\b.cell? ⟨f,l+i * 6+3,O⟩=W (U y)) b->(λb=>b.cell? ⟨u,1,O⟩=W (Y (W ⟨f,l,O⟩) n X)/\b.cell? ⟨f,l+i * 6,O⟩=W (V I R)/\b.cell? ⟨f,l+i * 6+1,O⟩=W (V I M)/\b.cell? ⟨f,l+i * 6+2,O⟩=W (V I N)/\b.cell? ⟨f,l+i * 6+3,O⟩=W (U y)) co:=λb co ad c=>⟨ad.at c.1 id,ad.at c.2.1 id,ad.at c.2.2.1 id,ad.at c.2.2.2.1 id,ad.at c.2.2.2.2 id⟩;have eq:=(F.block _ (lt_of_heap bw.out)).trans bw.out;have f4:(i:Int) < (n:Int):=by omega
   have hh:(0:Int)<=(i:Int):=by omega
   have f3:=zD (er.far av (λ_ _ _ e=>e));obtain⟨b4,f0⟩:=zx2 d2 b6;have ds:=zD (b6 _ _ av e6);have hc:=zD (av.heap eq id);clear ba F s er d2 b6 av e6 b9 bb c4 c5 eq fr a6 e7 ao bw
   go_upto_region 7 with (fail)
   refine wp_region_noPanic ?_;refine ar (λb=>b.cell? ⟨u,1,O⟩=W (Y (W ⟨f,l,O⟩) n X)/\b.cell? ⟨f,l+i * 6,O⟩=W (V I R)/\b.cell? ⟨f,l+i * 6+1,O⟩=W (V I M)/\b.cell? ⟨f,l+i * 6+2,O⟩=W (V I N)/\b.cell? ⟨f,l+i * 6+3,O⟩=W (U y)) [] (by kernel_rfl) ?_;refine aJ (by kernel_rfl) (λ_ _ _ _ c=>c) ds.out 4 [0,1,2,3,4,5,6,7,8,9,10,11,12,13,14,15,16,17,18,19,21] _ _ (by kernel_rfl) ?_;iterate 21 (refine ax (v:=?_) ?_ ?_;rotate_left;·(intro hB f1;(try dsimp only at f1);(try obtain⟨hz,ht,hi,hQ,hk⟩:=f1);go_simp;try with_reducible rfl);(try go_frame))
   refine xT.done ?_;try dsimp only
   refine aq [20] ?_;refine aj rfl (λK r=>?_) xQ.nil
   go_simp
   refine(f5.out _ b4.out).mono ?_;rintro e gb ⟨rfl,al⟩;have bn:=f0.out _ _ (Far.of_below al xO) ds.out;have d1:=(Far.of_below al xO).heap hc.out id;have a1:=b4.out.trans (al.mono b4.out.size);have e8:=f3.out.below al;refine r.out _ _ (λ_=>bn) ?_;clear r K
   (try go_frame)
   refine aq [22] ?_;refine aj rfl (λK r=>?_) xQ.nil
   go_simp
   refine(g0.out gb _ a1 e8).mono ?_;rintro e hD ⟨rfl,bm⟩;have A:=f0.out _ _ (Far.of_below bm xO) bn;have bR:=(Far.of_below bm xO).heap d1 id;have b8:=a1.trans (bm.mono a1.size);refine r.out _ _ (λ_=>A) ?_;clear r K bn d1 a1 e8 al bm
   (try go_frame)
   refine aq [23] ?_;refine aj rfl (λK r=>?_) xQ.nil
   go_simp
   refine r.out _ _ (λ_=>A) ?_;clear r K
   (try go_frame)
   obtain⟨hp,hL,hl,hF,hr,hy,g6,hG,hm,hV,hn,hH⟩:=pE bR;have gf:=xL bR (V I R) (V I M) (V I N) (U y) (U fv) (U fn);refine aq [24] ?_;refine aj rfl (λK r=>?_) xQ.nil
   go_simp
   obtain⟨fs,G⟩:=gf;have dv:=θ (G.at A.1 g5) (θ (G.at A.2.1 bk) (θ (G.at A.2.2.1 bk) (θ (G.at A.2.2.2.1 bk) (G.at A.2.2.2.2 bk))));have d3:=b8.trans (G.to_below b8.size (λk z e=>by have:=dp.out;omega));obtain⟨hd,gk⟩:=zx2 fs d3;refine r.out _ _ (λ_=>dv) ?_;clear r K dv A G bR b8 fs d3
   (try go_frame)
   refine aP (by kernel_rfl) (NoPanic.normal ?_) _
   go_wp2_with fail
   exact bodyPost_ret (v:=γ #[V I R,V I M,V I N,U y,U fv,U fn]) (by
    have gl:=run_loadVar_row (P:=π) _ c9 387 387 _ (0,0) _ hd.out underlying387 rfl (by kernel_rfl);have da:f245.results=#[ResultVar.cell 4 387]:=rfl;simp[results,da,asAddr,gl,Sem.run_bind,Result.andThen]) rfl ⟨rfl,gk.out⟩
end
section
attribute [local go_sem] ak
structure AP(g:List Tp.Nd)(cl:List Nat)(x:Tp.Nd):Prop where
 few:yx x
 kids:∀k∈Tp.kidsOf x,k < g.length
 keys:∀y∈Tp.keysOf x,x8 y=true/\y.s.length<=1000
 s1:(commas ((Tp.keysOf x).map Tp.scText)).length<=1000000
 s2:(commas ((Tp.kidsOf x).map λk=>Tp.itoa ((cl.getD k 0:Nat):Int))).length<=1000000
theorem lY(a:Nat)(w:World):Calls π 212 #[Z (W ⟨a,0,O⟩)] w λe w'=>e=ρ (φ (.func 244) #[] #[Z (W ⟨w.heap.size,0,O⟩)])/\w'=w.alloc (J #[Z (W ⟨a,0,O⟩)] 246):=by
 go_enter func212,ntmps212
 go_wp2
 go_ret
 exact⟨rfl,rfl⟩
theorem sd(args:Array Value)(w:World):(callFunc 244 args).run π w=.ok (.enter 244 args) w:=by kernel_rfl
def A7(g:List Tp.Nd)(b:List Nat)(t:Nat)(a:Array Value)(c:NS)(_:World):Prop:=(∃x,g[t]? =W x/\a=#[V I (t:Int),yM (Tp.say b x)])/\c=xO
theorem qj(g:List Tp.Nd)(p:List Nat)(v al:Value)(d o:NS)(r c:Nat)(w:World)(M:yc w d g v)(j:w.heap[c]? =some (.cells #[V I 0,v,al] 319 (0,0)))(q:w.heap[r]? =some (.cells #[Z (some ⟨c,0,O⟩)] 246 (0,0)))(a6:Row w o g.length al (xP p))(c9:p.length=g.length)(cl:∀A∈p,A<=1000000)(N:Glob w)(b0:∀x∈g,AP g p x)(c3:∀k,d k->k < w.heap.size)(b1:∀k,o k->k < w.heap.size):
 yQ π 244 #[Z (some ⟨r,0,O⟩)] 3 g.length (A7 g p) xO (λk=>k=r\/k=c\/k < 10\/d k\/o k) True (λ_ _=>True) (λ_=>True) w:=by
 intro l J e4 b4 W F bw hF0 an e0 db b8 c6;have bR:=M.below F;have c5:=(F.block _ (lt_of_heap j)).trans j;have bk:=(F.block _ (lt_of_heap q)).trans q;have ca:=a6.below F;have b5:=F.size;have c4:=N.step F;have eg:=lt_of_heap j;have d1:=lt_of_heap q;have d3:=N.1;obtain⟨B,ad⟩:∃B,w.heap.size=B:=⟨_,rfl⟩;rw[ad]at an b5 eg d1 d3;have u:∀k,d k->k < B:=λk m=>ad ▸ c3 k m;have bD:∀k,o k->k < B:=λk m=>ad ▸ b1 k m;have da:∀k,b4 k->¬(k=r\/k=c\/k < 10\/d k\/o k):=λk m=>(hF0 k m).2;have T:=λi x f (z:g[i]? =some x) (M:yc f d g v) (j:f.heap[c]? =some (.cells #[V I 0,v,al] 319 (0,0))) (y:Row f o g.length al (xP p)) (N:Glob f)=>(show ∃kv a4,yN f d v g.length i x kv a4 from M.at z);obtain⟨a,A,rfl,cf⟩:=M.form;obtain⟨R,P,rfl,_⟩:=a6.form;have c0:∀(i:Nat) (x:Tp.Nd) (f:World),g[i]? =some x->yc f d g (Y a g.length A)->f.heap[c]? =some (.cells #[V I 0,(Y a g.length A),(Y R g.length P)] 319 (0,0))->Row f o g.length (Y R g.length P) (xP p)->Glob f->Calls π 245 #[Z (some ⟨c,0,O⟩),V I (i:Int)] f λe w'=>e=ρ (yM (Tp.say p x))/\Below f.heap.size f w':=by
  intro i x f z M j y N;obtain⟨kv,a4,e1⟩:=M.at z;have S:=b0 x (zL z);exact mr x _ kv a4 _ g.length i c d o p f e1 S.few j y c9 S.kids cl N S.keys S.s1 S.s2
 obtain⟨b,ba⟩:∃b,g.length=b:=⟨_,rfl⟩;obtain⟨er,bn,cv,e9,es,d5⟩:=zx6 ba c0 b8 db an u;obtain⟨d6,dv,dc,bb,c2,df⟩:=zx6 bD da bR c5 bk ca;obtain⟨ei,d2⟩:=zx2 c4 c6;rw[ba]at bn cv bb df dc cf ⊢;clear c0 T b8 db an e0 u bD da hF0 bR c5 bk ca c4 c6 F bw M j q a6 c9 cl N b0 c3 b1 ad ba;unfold maxLen at cf;have bs:=zF c2.out 0 rfl;obtain⟨d0,en,ex,_⟩:=bv bb.out
 go_enter func244,ntmps244
 go_wp2_with fail
 go_step3
 go_wp2_with fail
 go_step3
 go_wp2_with fail
 go_loopw [10] (λav wr=>∃(t:Nat) (D:NS),av=V I (t:Int)/\t<=b/\yc wr d g (Y a b A)/\wr.heap[c]? =some (.cells #[V I 0,(Y a b A),(Y R b P)] 319 (0,0))/\wr.heap[r]? =some (.cells #[Z (some ⟨c,0,O⟩)] 246 (0,0))/\Row wr o b (Y R b P) (xP p)/\Glob wr/\B<=wr.heap.size/\J t D wr/\(∀k,D k->¬(k=r\/k=c\/k < 10\/d k\/o k))) (λav _=>b - (Lib.intOf av).toNat)
 case atStart=>exact⟨0,b4,rfl,z_ _,dc.out,bb.out,c2.out,df.out,ei.out,b5,d2.out,dv.out⟩
 case round=>
  clear d0 en ex bs;obtain⟨t,D,rfl,fl,G,j,q,y,u,bw,ac,a1⟩:=hrel;by_cases ao:t < b
  ·obtain⟨x,z⟩:∃x,g[t]? =some x:=⟨_,zE (by rw[er.out];exact ao)⟩
   have T:=bn.out t x wr z G j y u;have bs:=zF q 0 rfl;have e6:(t:Int) < (b:Int):=by omega
   obtain⟨b6,a2⟩:∃s,yM (Tp.say p x)=s:=⟨_,rfl⟩;rw[a2]at T;have b9:A7 g p t #[V I (t:Int),b6] xO wr:=⟨⟨x,z,by rw[a2]⟩,rfl⟩;obtain⟨dn,b2,co,dr,cc,bx⟩:=zx6 T G j q y u;obtain⟨dp,b3,ck⟩:=zx3 ac a1 b9;clear T G j q y u ac a1 b9 z a2
   go_upto_region 3 with (fail)
   refine(wpIn_wide (n:=4)).1 ?_
   gi_wp2
   refine⟨trivial,callsIn_wide.2 (dn.out.mono ?_)⟩;rintro e a9 ⟨rfl,a3⟩;have ch:Far xO wr a9:=Far.of_below a3 xO;have ds:=es.out t D wr a9 dp.out (Far.of_below a3 _);obtain⟨fr,fn,assign,body,cb,bm⟩:=cv.out t ao D xO #[V I (t:Int),b6] a9 ds ck.out (λk m=>m.elim);obtain⟨a5,L⟩:=zx2 bm ch;clear bm a3 ch ds dn
   gi_wp2
   refine(a5.out).mono ?_;rintro e H ⟨ab,⟨C,a0⟩,(⟨rfl,be⟩|⟨rfl,c1⟩)⟩
   ·have e5:=L.out.size
    have e8:=C.size;have E:∀k,D k->¬(k=r\/k=c\/k < 10\/d k\/o k):=b3.out;have G:=(b2.out.far L.out (λ_ _ _ e=>e)).far C (λk X _ e=>E k e (.inr (.inr (.inr (.inl X)))));have j:=C.heap (L.out.heap co.out id) (λe=>E _ e (.inr (.inl rfl)));have q:=C.heap (L.out.heap dr.out id) (λe=>E _ e (.inl rfl));have y:=(cc.out.far L.out (λ_ _ _ e=>e)).far C (λk X _ e=>E k e (.inr (.inr (.inr (.inr X)))));have u:=(bx.out.far L.out (λ_ _ e=>e)).far C (λk X e=>E k e (.inr (.inr (.inl X))));have cm:∀k,ab k->¬(k=r\/k=c\/k < 10\/d k\/o k):=by
     intro k m;rcases a0 k m with m|m|m
     ·exact E k m
     ·exact m.elim
     ·intro e
      rcases e with e|e|e|e|e
      ·omega
      ·omega
      ·omega
      ·have:=d5.out k e;omega
      ·have:=d6.out k e;omega
    have eq:=zD (show yc H d g (Y a b A)/\H.heap[c]? =some (.cells #[V I 0,(Y a b A),(Y R b P)] 319 (0,0))/\H.heap[r]? =some (.cells #[Z (some ⟨c,0,O⟩)] 246 (0,0))/\Row H o b (Y R b P) (xP p)/\Glob H/\B<=H.heap.size/\J (t+1) ab H/\(∀k,ab k->¬(k=r\/k=c\/k < 10\/d k\/o k))from ⟨G,j,q,y,u,by omega,be,cm⟩);clear G j q y u be cm E C a0 L b2 co dr cc bx dp b3 ck a5 cb
    gi_wp2
    go_wp2_with fail
    go_roundw
    case rel=>exact⟨t+1,ab,by go_num,ao,eq.out⟩
    case measure=>simp[Lib.intOf];omega
   ·have e2:=zD c1
    clear c1 C a0 a5 cb
    gi_wp2
    go_wp2_with fail
    try rw[Exit.noGoto_normal]
    go_end0
    exact⟨⟨_,rfl⟩,.inr ⟨ab,e2.out⟩⟩
  ·obtain rfl:t=b:=by omega
   have e7:¬(t:Int) < (t:Int):=by omega
   have d4:=zD ac;clear G j q y u ac a1
   go_wp2_with fail
   try rw[Exit.noGoto_normal]
   go_end0
   exact⟨⟨_,rfl⟩,.inl ⟨D,d4.out,trivial⟩⟩
end
theorem cD{α:Type}[DecidableEq α](l:List α)(x:α):Tp.firsts (l++[x])=if x∈Tp.firsts l then Tp.firsts l else Tp.firsts l++[x]:=by
 unfold Tp.firsts;rw[List.foldl_append];rfl
theorem vF{α:Type}[DecidableEq α](a c:List α)(x:α)(b:x∈a):Tp.idx (a++c) x=Tp.idx a x:=by
 unfold Tp.idx;rw[List.idxOf_append,if_pos b]
def zu(g:List Tp.Nd)(a:List Nat):List Tp.Say:=g.map (Tp.say a)
def yu(a:List Tp.Say)(t:Nat):List Tp.Say:=Tp.firsts (a.take t)
def zi(a:List Tp.Say)(t:Nat):List Nat:=(a.take t).map (Tp.idx (yu a t))
theorem jR(a:List Tp.Say):yu a 0=[]:=by simp[yu,Tp.firsts]
theorem iV(a:List Tp.Say)(t:Nat)(s:Tp.Say)(b:a[t]? =W s)(c:s∈yu a t):yu a (t+1)=yu a t:=by
 unfold yu at *;rw[zG,b];show Tp.firsts (a.take t++[s])=_;rw[cD,if_pos c]
theorem eW(a:List Tp.Say)(t:Nat)(s:Tp.Say)(b:a[t]? =W s)(c:s ∉ yu a t):yu a (t+1)=yu a t++[s]:=by
 unfold yu at *;rw[zG,b];show Tp.firsts (a.take t++[s])=_;rw[cD,if_neg c]
theorem nw(a:List Tp.Say)(t:Nat)(s:Tp.Say):s∈a.take t↔s∈yu a t:=by
 unfold yu;exact(Tp.bH _ _).symm
theorem ql(a:List Tp.Say)(t:Nat)(s:Tp.Say)(b:a[t]? =W s):zi a (t+1)=zi a t++[Tp.idx (yu a (t+1)) s]:=by
 unfold zi;rw[zG,b,List.map_append];congr 1
 apply List.map_congr_left
 intro x d;by_cases c:s∈yu a t
 ·rw[iV a t s b c]
 ·rw[eW a t s b c]
  exact vF _ _ x ((nw a t x).1 d)
theorem iS(a:List Tp.Say)(t:Nat)(b:t<=a.length):(zi a t).length=t:=by simp[zi];omega
theorem eU(g:List Tp.Nd)(a:List Nat):Tp.round g a=(zi (zu g a) g.length,(yu (zu g a) g.length).length):=by
 have b:(zu g a).take g.length=zu g a:=zR (by simp[zu]);unfold Tp.round zi yu;rw[b];rfl
theorem gY(a:List Tp.Say)(t:Nat):(yu a t).Nodup:=Tp.eD _
theorem eX(a:List Tp.Say):∀t,(yu a t).length<=t
 |0=>by rw[jR];exact η _
 |t+1=>by
  have d:=eX a t;cases b:a[t]? with
  |none=>
   have:a.take (t+1)=a.take t:=by rw[zG,b];simp
   unfold yu at *;rw[this];omega
  |some s=>
   by_cases c:s∈yu a t
   ·rw[iV a t s b c];omega
   ·rw[eW a t s b c,zP];simp;omega
def yY:List Tp.Say->Nat->List (Value × Value)
 | [],_=>[]
 |s::r,k=>(yM s,V I (k:Int))::yY r (k+1)
theorem iU:∀(l:List Tp.Say) (k:Nat),(yY l k).length=l.length
 | [],_=>rfl
 |_::r,k=>by rw[yY,zO,iU r,zO]
theorem jQ:∀(l:List Tp.Say) (s:Tp.Say) (k:Nat),yY (l++[s]) k=yY l k++[(yM s,V I ((k+l.length:Nat):Int))]
 | [],s,k=>rfl
 |j::r,s,k=>by
  rw[List.cons_append,yY,jQ r s (k+1),yY,List.cons_append,zO,show k+1+r.length=k+(r.length+1)by omega]
theorem iP{a c:Tp.B}(b:xR a=xR c):a=c:=by
 unfold xR at b
 simpa using b
theorem eT{s t:Tp.Say}(b:yM s=yM t):s=t:=by
 obtain⟨a,⟨u,y,d⟩,e,o⟩:=s;obtain⟨q,⟨n,m,v⟩,r,w⟩:=t;unfold yM at b;simp only[Value.agg.injEq]at b;have b:=Array.mk.inj b;simp only[List.cons.injEq,and_true]at b;obtain⟨g,c,j,f,i,k⟩:=b;have x:=iP f;have l:=iP i;have p:=iP k;simp only[Value.int.injEq,true_and]at g c j
 simp_all
theorem eV:∀(l:List Tp.Say) (k:Nat) (p:Value × Value),p∈yY l k->∃s,s∈l/\p.1=yM s
 | [],k,p,a=>by simp[yY]at a
 |j::r,k,p,a=>by
  simp only[yY,List.mem_cons]at a;rcases a with rfl|a
  ·exact⟨j,by simp,rfl⟩
  ·obtain⟨i,a,b⟩:=eV r (k+1) p a
   exact⟨i,by simp[a],b⟩
theorem lZ:∀(l:List Tp.Say) (k:Nat) (s:Tp.Say),s∈l->(yM s,Value.int I ((k+Tp.idx l s:Nat):Int))∈yY l k
 | [],k,s,a=>by simp at a
 |j::r,k,s,a=>by
  by_cases e:s=j
  ·subst e;rw[Tp.bp,if_pos rfl];simp[yY]
  ·have b:s∈r:=by simpa [e]using a
   have:=lZ r (k+1) s b;simp only[yY,List.mem_cons];right
   rw[Tp.bp,if_neg (λa=>e a.symm),show k+(Tp.idx r s+1)=k+1+Tp.idx r s by omega];exact this
theorem iT:∀(l:List Tp.Say) (k:Nat) (s:Tp.Say),l.Nodup->∀p∈yY l k,p.1=yM s->p.2=V I ((k+Tp.idx l s:Nat):Int)
 | [],k,s,_,p,a,_=>by simp[yY]at a
 |j::r,k,s,hn,p,a,h1=>by
  obtain⟨d,f⟩:=List.nodup_cons.1 hn;simp only[yY,List.mem_cons]at a;rcases a with rfl|a
  ·have:j=s:=eT h1
   subst this;rw[Tp.bp,if_pos rfl];rfl
  ·obtain⟨m,c,b⟩:=eV r (k+1) p a
   rw[b]at h1;have:m=s:=eT h1;subst this;have e:m≠j:=λe=>d (e ▸ c);rw[iT r (k+1) m f p a b,Tp.bp,if_neg (λa=>e a.symm),show k+(Tp.idx r m+1)=k+1+Tp.idx r m by omega]
section
attribute [local go_sem] ak
attribute [local go_sem] Oper.semAt_some
theorem uF{a:World}{c:Nat}{b:List (Value × Value)}(e:xW π 387 a c b):∀d,(Builtin.len_ #[382] d #[.map (W c)]).run π a=.ok (.int I (b.length:Int)) a:=by
 obtain⟨⟨g,i,f,rfl⟩,_⟩:=e;intro d;simp[Builtin.len_,run_underlying underlying382,MapKept.run_getObj_map f,goInt,Result.andThen]
structure RdI(b:Nat)(w:World)(mb q0 q1 nb N:Nat)(L:List Tp.Say)(t:Nat)(F:NS)(W:World):Prop where
 fr:F=λk=>k=mb\/k=nb
 le:t<=N
 c0:W.heap[q0]? =some (J #[.map (some mb)] 382 (0,0))
 c1:W.heap[q1]? =some (J #[Y (some ⟨nb,0,O⟩) N N] 122 (0,0))
 mp:xW π 387 W mb (yY (yu L t) 0)
 pr:PR W nb (xP (zi L t++List.replicate (N - t) 0))
 far:Below b w W
theorem uo(b:World)(q d a:Nat)(c B:List Nat)(o:c.length=a)(v:B.length=a)(e:PR b q (xP c))(r:PR b d (xP B)):
 ∃f,(Builtin.copy_ #[122,122] 3 #[Y (W ⟨q,0,O⟩) a a,Y (W ⟨d,0,O⟩) a a]).run π b=.ok (V I (a:Int)) f/\PR f q (xP B)/\Far (·=q) b f:=by
 obtain⟨z,t,w,n,y⟩:=info_parts gI;have p:(prog.info? 3).map (·.size)=W 1:=by rw[t];simp[n]
 have x:(xP c).length=a:=by simp[xP,o]
 have l:(xP B).length=a:=by simp[xP,v]
 have m:=run_copy_cells (P:=π) b 122 122 3 3 q 0 a a ⟨d,0,O⟩ a a (xP B) underlying122 p (by rw[l];exact(Nat.min_self a).symm) (λj u g=>by rw[gK];exact r.cell g) (λj g=>by
  rw[Nat.zero_add,e.cell (zE (by omega))];rfl) (λj g=>e.frozen _) (by intro u s;obtain⟨i,_,rfl⟩:=List.mem_map.1 s;rfl)
 have k:=fI (xP B) 0 b (xP c) e (by omega);rw[List.take_zero,List.nil_append,Nat.zero_add,List.drop_of_length_le (by omega),List.append_nil]at k;exact⟨_,by rw[m,l];rfl,k,eJ _ _ _⟩
theorem qv(g:List Tp.Nd)(H:List Nat)(v:Value)(dr:NS)(C E:Nat)(w:World)(fz:yc w dr g v)(u:w.heap[C]? =W (J #[.int I 0,v,(Y (W ⟨E,0,O⟩) g.length g.length)] 319 (0,0)))(d3:PR w E (xP H))(d0:H.length=g.length)(g2:∀hs∈H,hs<=1000000)(c3:Glob w)(gb:∀x∈g,AP g H x)(fs:∀s∈zu g H,∃l,keyOf π 387 (yM s)=W l)(ha:∀k,dr k->k < w.heap.size/\k≠E)(hY:g.length<=200)(i3:C≠E):
 Calls π 161 #[.pointer (W ⟨C,0,O⟩)] w λe w'=>e=ρ (.int I ((Tp.round g H).2:Int))/\PR w' E (xP (Tp.round g H).1)/\Far (·=E) w w':=by
 rw[eU];obtain⟨a,ad⟩:∃m,w.heap.size=m:=⟨_,rfl⟩;have fv:=aL (P:=π) (K:=387) w;rw[ad]at fv;have hR:=@run_makeMap π;obtain⟨b,bD⟩:∃b,g.length=b:=⟨_,rfl⟩;rw[bD]at u d0 hY ⊢;obtain⟨f,df⟩:∃f,zu g H=f:=⟨_,rfl⟩;have g1:∀(t:Nat) (x:Tp.Nd),g[t]? =W x->f[t]? =W (Tp.say H x):=λt x d=>by rw[<-df];unfold zu;rw[List.getElem?_map,d];rfl
 have hc:f.length=b:=by rw[<-df,<-bD];simp[zu]
 rw[df]at fs ⊢;have fR:Far xO w ((w.alloc (.map #[] 0)).alloc (J #[.map (W a)] 382)):=((ξ _ w).alloc _).alloc _;obtain⟨o,gr,e8,c9⟩:=fP b (by omega) ((w.alloc (.map #[] 0)).alloc (J #[.map (W a)] 382));have e3:((w.alloc (.map #[] 0)).alloc (J #[.map (W a)] 382)).heap.size=a+2:=by simp[ad]
 have gk:((w.alloc (.map #[] 0)).alloc (J #[.map (W a)] 382)).heap[a+1]? =W (J #[.map (W a)] 382 (0,0)):=ah _ _ _ (by simp[ad]);rw[e3]at gr e8 c9;obtain⟨ga,g5,he,_⟩:=bv u;obtain⟨hq,hX,rfl,_⟩:=fz.form;have hb:=fR.heap u id;obtain⟨hM,hx,hZ,_⟩:=bv hb;obtain⟨gc,d5⟩:=zx2 fR e8;have g7:=c9;obtain⟨hB,g4⟩:=zx2 c9 gk;have f9:=zD ((fv.far ((ξ xO _).alloc (J #[.map (W a)] 382)) (λe=>e)));clear fR e8 c9 gk fv hb;refine callsIn_wide.1 (callsIn_of_wp_marks (n:=5) func161 rfl trivial (wpIn_wide.2 ?_));simp only[ntmps161,List.size_toArray,zO,List.length_nil,Nat.reduceAdd,Nat.reduceSub,Array.replicate_succ,Array.replicate_zero,List.push_toArray,List.append_toArray,List.nil_append,List.cons_append]
 go_wp2_with fail
 refine(lY _ _).mono ?_;rintro e h9 ⟨rfl,rfl⟩;obtain⟨G,b2⟩:∃q,o.heap.size=q:=⟨_,rfl⟩;have h6:a+3<=G:=by have:=d5.out.lt;omega
 have ca:Far xO o ((o.alloc (J #[Y (W ⟨a+2,0,O⟩) b b] 122)).alloc (J #[.pointer (W ⟨C,0,O⟩)] 246)):=((ξ _ o).alloc _).alloc _;have dv:Far xO ((w.alloc (.map #[] 0)).alloc (J #[.map (W a)] 382)) o:=Far.of_below (by rw[e3];exact g7) _;have a2:Far xO w ((o.alloc (J #[Y (W ⟨a+2,0,O⟩) b b] 122)).alloc (J #[.pointer (W ⟨C,0,O⟩)] 246)):=(gc.out.trans dv).trans ca;have dc:((o.alloc (J #[Y (W ⟨a+2,0,O⟩) b b] 122)).alloc (J #[.pointer (W ⟨C,0,O⟩)] 246)).heap.size=G+2:=by simp[b2]
 have hh:((o.alloc (J #[Y (W ⟨a+2,0,O⟩) b b] 122)).alloc (J #[.pointer (W ⟨C,0,O⟩)] 246)).heap[G+1]? =W (J #[.pointer (W ⟨C,0,O⟩)] 246 (0,0)):=ah _ _ _ (by simp[b2]);have hj:((o.alloc (J #[Y (W ⟨a+2,0,O⟩) b b] 122)).alloc (J #[.pointer (W ⟨C,0,O⟩)] 246)).heap[G]? =W (J #[Y (W ⟨a+2,0,O⟩) b b] 122 (0,0)):=by rw[<-b2];exact aa _ (af o _)
 have c6:=d3.far a2 id;have ge:Row ((o.alloc (J #[Y (W ⟨a+2,0,O⟩) b b] 122)).alloc (J #[.pointer (W ⟨C,0,O⟩)] 246)) (·=E) b (Y (W ⟨E,0,O⟩) b b) (xP H):=⟨_,E,0,b,rfl,⟨η _,by unfold maxLen;omega⟩,λ_=>rfl,λ_=>⟨rfl,c6.lt,λi hN r=>by rw[Nat.zero_add];exact c6.cell r⟩⟩;have eq:∀k,dr k->k < a:=λk R=>ad ▸ (ha k R).1;have h7:E < a:=ad ▸ d3.lt;have ht:C < a:=ad ▸ lt_of_heap u;have ih:10<=a:=ad ▸ c3.1;have ex:=qj g H (Y hq g.length hX) (Y (W ⟨E,0,O⟩) b b) dr (·=E) (G+1) C ((o.alloc (J #[Y (W ⟨a+2,0,O⟩) b b] 122)).alloc (J #[.pointer (W ⟨C,0,O⟩)] 246)) (fz.far a2 (λ_ _ _ e=>e)) (a2.heap u id) hh (by rw[bD];exact ge) (by rw[bD];exact d0) g2 (c3.far a2 (λ_ _ e=>e)) gb (λk R=>by have:=eq k R;rw[dc];omega) (λk R=>by subst R;rw[dc];omega);rw[bD]at ex;have ds:RdI a w a (a+1) G (a+2) b f 0 (λk=>k=a\/k=a+2) ((o.alloc (J #[Y (W ⟨a+2,0,O⟩) b b] 122)).alloc (J #[.pointer (W ⟨C,0,O⟩)] 246)):=⟨rfl,z_ _,ca.heap (dv.heap g4.out id) id,hj,by rw[jR];exact(f9.out.far dv id).far ca id,by
  have:zi f 0++List.replicate (b - 0) 0=List.replicate b 0:=by simp[zi]
  rw[this];exact d5.out.far ca id,ad ▸ a2.to_below (η _) (λ_ _ e=>e)⟩
 obtain⟨hW,hz,cc,f4,hv,hn⟩:=zx6 ds ex dc eq g1 fs;obtain⟨hd,h3,i8⟩:=zx3 hc a2 c6;have fG:=zD (θ d3 (θ d0 u));have i1:=zD (a2.heap u id);have al:=zD ad;have hi:(o.alloc (J #[Y (W ⟨a+2,0,O⟩) b b] 122)).heap.size=G+1:=by simp[b2]
 clear fz u d3 g2 c3 gb fs ha ca dv a2 hh hj c6 ge eq ex ds dc df g1 hc gc d5 hB g4 f9 gr hR ga g5 he hM hx hZ bD d0;rw[hi,b2];generalize ((o.alloc (J #[Y (W ⟨a+2,0,O⟩) b b] 122)).alloc (J #[.pointer (W ⟨C,0,O⟩)] 246))=hA at *;clear hi b2 e3 g7 ad
 go_wp2_with fail
 refine wpIn_wide.1 (aC (n:=5) (gf:=244) (lb:=#[.pointer (W ⟨G+1,0,O⟩)]) rfl (λargs wx=>sd args wx)
  hz.out (λk e=>e.elim) (λk e=>by have:=cc.out;rcases e with rfl|rfl|e|e|e;omega;omega;omega;(have:=f4.out k e;omega);(subst e;omega)) (λt v hy c d=>by obtain⟨⟨x,_,rfl⟩,_⟩:=d;rfl)
  (RdI a w a (a+1) G (a+2) b f) (λ_ _ _=>False) (λk=>k=a\/k=a+2) (λk d=>?hF0) hW.out ?hI (λ_ _ _ _ d _=>d) (λ_ _ _ _=>trivial) (λ_ _ _ _=>trivial) ?round ?done (λ_ _ _ d=>d.elim))
 case hF0=>
  have:=cc.out;exact⟨λe=>e,λe=>by rcases e with e|e|e|e|e;omega;omega;omega;(have:=f4.out k e;omega);omega,by omega,by omega,λ_=>by omega⟩
 case hI=>
  rintro t f5 c hQ ⟨rfl,d1,M,N,a4,ao,y⟩ b9;have b6:∀i,i < G+2->¬y8 xO (λk=>k=a\/k=a+2) hA.heap.size i:=λi fr e=>by have:=cc.out;rcases e.2 with d|d;exact d;omega
  exact⟨rfl,d1,b9.heap M (b6 _ (by omega)),b9.heap N (b6 _ (by omega)),a4.far b9 (b6 _ (by omega)),ao.far b9 (b6 _ (by omega)),y.trans (b9.to_below (by have:=y.size;have:=al.out;omega) (λi fr=>b6 i (by omega)))⟩
 case round=>
  rintro t f5 hy hN c it f2 gd ⟨rfl,hE,M,N,a4,ao,y⟩ ⟨⟨x,ei,rfl⟩,rfl⟩ c3 e1 bx;have dp:=cc.out;rw[dp]at gd e1;obtain⟨hg,f1⟩:∃s,Tp.say H x=s:=⟨_,rfl⟩;have S:=hv.out t x ei;rw[f1]at S ⊢;obtain⟨h8,bw⟩:=hn.out hg (zL S);obtain⟨K,⟨T,X,c0⟩,d2,c4⟩:=hg;have av:yM (K,⟨T,X,c0⟩,d2,c4)=γ #[.int I K,.int I T,.int I X,xR c0,xR d2,xR c4]:=rfl;obtain⟨s,bR⟩:∃s,((K,⟨T,X,c0⟩,d2,c4):Tp.Say)=s:=⟨_,rfl⟩;obtain⟨bn,hf⟩:∃b8,xR c0=.string b8:=⟨_,rfl⟩;obtain⟨ba,g6⟩:∃b8,xR d2=.string b8:=⟨_,rfl⟩;obtain⟨be,f7⟩:∃b8,xR c4=.string b8:=⟨_,rfl⟩;rw[hf,g6,f7]at av;rw[av];rw[bR]at av S bw;clear bR f1 hf g6 f7
  gi_wp2
  refine bx _ _ ((ξ _ c).alloc _) ?_;intro o cf _ _;rw[dp]at cf;have bb:Far (·=G+2+1) c o:=((ξ xO c).alloc (J #[.int I K,.int I T,.int I X,.string bn,.string ba,.string be] 387) |>.mono (λ_ _ e=>e.elim)).trans cf;have a1:=cf.heap (af c (J #[.int I K,.int I T,.int I X,.string bn,.string ba,.string be] 387)) (by omega);obtain⟨p,u⟩:∃p,c.heap.size=p:=⟨_,rfl⟩;rw[u]at a1 gd ⊢;have b0:=bb.heap M (by omega);have b1:=bb.heap N (by omega);have ac:=a4.far bb (by omega);have bm:=ao.far bb (by omega);have b3:=y.trans (bb.to_below (by have:=y.size;have:=al.out;omega) (λk R e=>by omega));obtain⟨A,hF⟩:∃n,a+2=n:=⟨_,rfl⟩;rw[hF]at b1 bm ⊢;obtain⟨an,bk⟩:∃an,yY (yu f t) 0=an:=⟨_,rfl⟩;have c5:=ql f t s S;obtain⟨z,hI⟩:∃z,Tp.idx (yu f (t+1)) s=z:=⟨_,rfl⟩;rw[hI]at c5;have ct:s∈yu f (t+1):=by
   by_cases bR:s∈yu f t
   ·rw[iV f t s S bR];exact bR
   ·rw[eW f t s S bR];simp
  obtain⟨cl,a6⟩:∃an,yY (yu f (t+1)) 0=an:=⟨_,rfl⟩;have c1:∀c,xW π 387 c a cl->(Instr.lookup 382 (.map (W a)) (γ #[.int I K,.int I T,.int I X,.string bn,.string ba,.string be]) false).run π c=.ok (.int I (z:Int)) c:=by
   intro c hC;have:=hC.look_in eY underlying382 (gC _) (yM s) bw false (.int I (z:Int)) (by rw[<-a6,<-hI];have:=lZ (yu f (t+1)) 0 s ct;rw[Nat.zero_add]at this;exact this) (λp u a0=>by
    rw[<-a6]at u;have:=iT (yu f (t+1)) 0 s (gY _ _) p u a0;rw[this,hI,Nat.zero_add])
   rw[av]at this
   simpa using this
  have e7:=iS f t (by rw[hd.out];omega);have c2:(xP (zi f t++List.replicate (b - t) 0)).set t (.int I (z:Int))=xP (zi f (t+1)++List.replicate (b - (t+1)) 0):=by
   rw[c5];unfold xP;rw[show (Value.int I (z:Int))=(λi:Nat=>Value.int I (i:Int)) z from rfl,<-List.map_set,List.set_append_right _ _ (by omega),e7,Nat.sub_self,show b - t=(b - (t+1))+1 by omega,List.replicate_succ,zB,List.append_assoc];rfl
  have i7:z < 1000:=by
   have d1:=eX f (t+1);have M:=Tp.kN _ _ ct;omega
  have i6:a < p/\A < p/\G < p/\a+1 < p:=by omega
  by_cases b4:s∈yu f t
  ·have cb:an=cl:=by rw[<-bk,<-a6,iV f t s S b4]
   obtain⟨a3,hP⟩:∃c,o=c:=⟨_,rfl⟩;have hr:(Instr.lookup 382 (.map (W a)) (γ #[.int I K,.int I T,.int I X,.string bn,.string ba,.string be]) true).run π o=.ok (.tuple #[.int I (z:Int),.bool true]) o:=by
    rw[bk,cb]at ac;have:=ac.look_in eY underlying382 (gC _) (yM s) bw true (.int I (z:Int)) (by rw[<-a6,<-hI];have:=lZ (yu f (t+1)) 0 s ct;rw[Nat.zero_add]at this;exact this) (λp u a0=>by
     rw[<-a6]at u;have:=iT (yu f (t+1)) 0 s (gY _ _) p u a0;rw[this,hI,Nat.zero_add])
    rw[av]at this
    simpa using this
   rw[bk,cb]at ac;have a5:=ac;have dn:=zF b1 0 rfl;have db:=zF b0 0 rfl;obtain⟨d6,e0,d4,es,e4,fl,_⟩:=pE a1;have ab:=aQ bm t (.int I (z:Int));rw[c2]at ab;have L:Far (·=A) o (o.setCell ⟨A,t,O⟩ (.int I (z:Int))):=Far.setCell (D:=(·=A)) (ξ _ _) (p:=⟨A,t,O⟩) (λ_=>rfl) _;have co:=(vf bm (i:=t) (by simp[xP];omega));obtain⟨u9,co⟩:=co;have hJ:=bm.frozen t;have ck:=θ (L.heap b0 (by omega)) (θ (L.heap b1 (by omega)) (θ (a5.far L (by omega)) (θ ab (θ (b3.trans (L.to_below (by have:=b3.size;have:=al.out;omega) (λk R e=>by omega))) (L.mono (D':=λk=>k=a\/k=A) (λk _ e=>.inr e))))));have ds:(0:Int)<=(t:Int):=by omega
   have hu:(t:Int) < (b:Int):=by omega
   have eg:=lt_of_heap a1;clear b0 b1 ac bm b3 M N a4 ao y hP ab L bb cf bx ei a1 S bw av c5 ct e7 c2 b4;rw[dp]
   gi_wp2_with (fail)
   have ch:=zD c1;have hm:Far xO o o.drew:=(ξ _ o).drew;refine aN (λc=>c.cell? ⟨G,0,O⟩=W (Y (W ⟨A,0,O⟩) b b)/\c.cell? ⟨a+1,0,O⟩=W (.map (W a))/\c.cell? ⟨p,0,O⟩=W (.int I K)/\c.cell? ⟨p,1,O⟩=W (.int I T)/\c.cell? ⟨p,2,O⟩=W (.int I X)/\c.cell? ⟨p,3,O⟩=W (.string bn)/\c.cell? ⟨p,4,O⟩=W (.string ba)/\c.cell? ⟨p,5,O⟩=W (.string be)/\xW π 387 c a cl) [6] (by kernel_rfl) (by kernel_rfl) (λd=>by obtain⟨_,_,d⟩:=d;exact d) ?_;refine aJ (by kernel_rfl) (λ_ _ _ _ d=>d) ⟨dn,db,d6,e0,d4,es,e4,fl,a5⟩ 1 [0,1,2,3,4,5] _ _ (by kernel_rfl) ?_;iterate 6 (refine ax (v:=?_) ?_ ?_;rotate_left;·(intro e5 cv;(try dsimp only at cv);(try obtain⟨hD,hw,hl,hS,hp,hU,hG,hL,e2⟩:=cv);have h0:=ch.out e5 e2;go_simp;try with_reducible rfl);(try go_frame))
   refine xT.done ?_;try dsimp only
   have e9:=zD ck;clear a5 c1 ch ck;refine aq [6] ?_;refine aj rfl (λe6 cm=>?_) xQ.nil
   go_simp
   have F:Far xO (o.setCell ⟨A,t,O⟩ (.int I (z:Int))) (o.setCell ⟨A,t,O⟩ (.int I (z:Int))).drew:=(ξ _ _).drew;refine cm.out _ _ (λd=>absurd (by simp) d) ?_;clear cm e6
   (try go_frame)
   refine aP (by kernel_rfl) ?_ _;have r:=e9.out;rw[<-a6]at r;exact⟨_,⟨rfl,f2,F.heap r.1 id,F.heap r.2.1 id,r.2.2.1.far F id,r.2.2.2.1.far F id,r.2.2.2.2.1.trans (F.to_below (by have:=r.2.2.2.2.1.size;have:=al.out;omega) (λ_ _ e=>e))⟩,r.2.2.2.2.2.step F (λ_ _ e=>e.elim),λk d=>⟨.inl d,λ_=>by
    have d1:=r.2.2.2.2.2.size;have M:=F.size;have N:=eg;rcases d with d|d<;>omega⟩⟩
  ·have g8:an.length=(yu f t).length:=by rw[<-bk,iU]
   have hr:(Instr.lookup 382 (.map (W a)) (γ #[.int I K,.int I T,.int I X,.string bn,.string ba,.string be]) true).run π o=.ok (.tuple #[.int I 0,.bool false]) o:=by
    have:=ac.look_out eY underlying382 (gC _) (yM s) bw true (λp u a0=>by
     obtain⟨j,en,fn⟩:=eV _ _ _ u;rw[fn]at a0;exact b4 (eT a0 ▸ en))
    rw[av]at this
    simpa using this
   rw[bk]at ac;have h4:=uF ac;obtain⟨a3,ho,a5,a9⟩:=ac.put eY underlying382 (yM s) (.int I (an.length:Int)) bw (λp u a0=>by
    rw[<-bk]at u;obtain⟨j,en,fn⟩:=eV _ _ _ u;rw[fn]at a0;exact b4 (eT a0 ▸ en))
   have cb:an++[(yM s,.int I (an.length:Int))]=cl:=by rw[<-a6,eW f t s S b4,jQ,bk,g8,Nat.zero_add]
   rw[cb]at a5;rw[av]at ho;have i5:=zF b0 0 rfl;obtain⟨h1,h5,i2,js,i4,i0,_⟩:=pE a1;have eg:=lt_of_heap a1;have ft:=a9.heap b0 (by omega);have f0:=a9.heap b1 (by omega);have da:=bm.far a9 (by omega);have f8:=a9.heap a1 (by omega);have er:=b3.trans (a9.to_below (by have:=b3.size;have:=al.out;omega) (λk R e=>by omega));have dn:=zF f0 0 rfl;have db:=zF ft 0 rfl;obtain⟨d6,e0,d4,es,e4,fl,_⟩:=pE f8;have ab:=aQ da t (.int I (z:Int));rw[c2]at ab;have L:Far (·=A) a3 (a3.setCell ⟨A,t,O⟩ (.int I (z:Int))):=Far.setCell (D:=(·=A)) (ξ _ _) (p:=⟨A,t,O⟩) (λ_=>rfl) _;have co:=(vf da (i:=t) (by simp[xP];omega));obtain⟨u9,co⟩:=co;have hJ:=da.frozen t;have ck:=θ (L.heap ft (by omega)) (θ (L.heap f0 (by omega)) (θ (a5.far L (by omega)) (θ ab (θ (er.trans (L.to_below (by have:=er.size;have:=al.out;omega) (λk R e=>by omega))) ((a9.mono (D':=λk=>k=a\/k=A) (λk _ e=>.inl e)).step L (λk _ e=>.inr e))))));have ds:(0:Int)<=(t:Int):=by omega
   have hu:(t:Int) < (b:Int):=by omega
   clear b0 b1 ac bm b3 M N a4 ao y ab L bb cf bx ei a1 S bw av c5 ct e7 c2 b4 ft f0 da er f8 a9 g8 cb;rw[dp]
   gi_wp2_with (fail)
   have ch:=zD c1;have hm:Far xO a3 a3.drew:=(ξ _ a3).drew;refine aN (λc=>c.cell? ⟨G,0,O⟩=W (Y (W ⟨A,0,O⟩) b b)/\c.cell? ⟨a+1,0,O⟩=W (.map (W a))/\c.cell? ⟨p,0,O⟩=W (.int I K)/\c.cell? ⟨p,1,O⟩=W (.int I T)/\c.cell? ⟨p,2,O⟩=W (.int I X)/\c.cell? ⟨p,3,O⟩=W (.string bn)/\c.cell? ⟨p,4,O⟩=W (.string ba)/\c.cell? ⟨p,5,O⟩=W (.string be)/\xW π 387 c a cl) [6] (by kernel_rfl) (by kernel_rfl) (λd=>by obtain⟨_,_,d⟩:=d;exact d) ?_;refine aJ (by kernel_rfl) (λ_ _ _ _ d=>d) ⟨dn,db,d6,e0,d4,es,e4,fl,a5⟩ 1 [0,1,2,3,4,5] _ _ (by kernel_rfl) ?_;iterate 6 (refine ax (v:=?_) ?_ ?_;rotate_left;·(intro e5 cv;(try dsimp only at cv);(try obtain⟨hD,hw,hl,hS,hp,hU,hG,hL,e2⟩:=cv);have h0:=ch.out e5 e2;go_simp;try with_reducible rfl);(try go_frame))
   refine xT.done ?_;try dsimp only
   have e9:=zD ck;clear a5 c1 ch ck;refine aq [6] ?_;refine aj rfl (λe6 cm=>?_) xQ.nil
   go_simp
   have F:Far xO (a3.setCell ⟨A,t,O⟩ (.int I (z:Int))) (a3.setCell ⟨A,t,O⟩ (.int I (z:Int))).drew:=(ξ _ _).drew;refine cm.out _ _ (λd=>absurd (by simp) d) ?_;clear cm e6
   (try go_frame)
   refine aP (by kernel_rfl) ?_ _;have r:=e9.out;rw[<-a6]at r;exact⟨_,⟨rfl,f2,F.heap r.1 id,F.heap r.2.1 id,r.2.2.1.far F id,r.2.2.2.1.far F id,r.2.2.2.2.1.trans (F.to_below (by have:=r.2.2.2.2.1.size;have:=al.out;omega) (λ_ _ e=>e))⟩,r.2.2.2.2.2.step F (λ_ _ e=>e.elim),λk d=>⟨.inl d,λ_=>by
    have d1:=r.2.2.2.2.2.size;have M:=F.size;have N:=eg;rcases d with d|d<;>omega⟩⟩
 case done=>
  rintro f5 c ⟨rfl,hE,M,N,a4,ao,y⟩ _ bx e1;rw[cc.out]at bx ⊢;rw[Nat.sub_self,List.replicate_zero,List.append_nil]at ao;have g0:Far (·=E) w c:=⟨y.os,y.tape,y.output,y.size,λi fr _=>y.block i (by have:=al.out;omega)⟩;have gg:PR c E (xP H):=fG.out.1.far (D:=λk=>a<=k) ⟨y.os,y.tape,y.output,y.size,λi fr i9=>y.block i (by omega)⟩ (by omega);have g3:=(y.block C ht).trans fG.out.2.2;have bs:Far xO c c.drew:=(ξ _ c).drew;obtain⟨hT,h2,ab,b5⟩:=uo c.drew E (a+2) b H (zi f b) fG.out.2.1 (iS f b (by rw[hd.out];omega)) (gg.far bs id) (ao.far bs id);have dn:=zF N 0 rfl;obtain⟨ga,g5,he,_⟩:=bv g3;have db:=zF (b5.heap (bs.heap M id) (by omega)) 0 rfl;have f6:=(a4.far bs id).far b5 (by omega);have hV:=uF f6;rw[iU]at hV;have gl:=b5.heap (bs.heap bx id) (by omega);have gx:Far (·=E) w hT:=(g0.trans (bs.mono (λ_ _ e=>e.elim))).trans b5;obtain⟨hk,hH,hK⟩:=zx3 ab gx gl;clear M N a4 ao y g0 gg g3 bs ab b5 f6 gl gx bx e1
  go_wp2_with fail
  go_region
  go_wp2_with fail
  refine au (q:=G+2) rfl hK.out ?_;intro hQ f3;exact⟨.int I ((yu f b).length:Int),by simp[results,results161,go_sem],rfl,hk.out.far f3 (by omega),hH.out.step f3 (λk R e=>by have:=al.out;omega)⟩
end
section
attribute [local go_sem] ak
theorem qu(g:List Tp.Nd)(a:List Nat):(Tp.round g a).1.length=g.length:=by
 rw[eU];exact iS _ _ (by simp[zu])
theorem tq(g:List Tp.Nd)(b:List Nat)(c:Nat)(a:c∈(Tp.round g b).1):c < g.length:=by
 rw[eU]at a;unfold zi at a;obtain⟨s,d,rfl⟩:=List.mem_map.1 a;have f:=Tp.kN _ _ ((nw _ _ s).1 d);have e:=eX (zu g b) g.length;omega
theorem tw(g:List Tp.Nd)(a:List Nat):(Tp.round g a).2<=g.length:=by
 rw[eU];exact eX _ _
def Ag(g:List Tp.Nd):Prop:=∀a:List Nat,a.length=g.length->(∀b∈a,b<=1000000)->(∀x∈g,AP g a x)/\∀s∈zu g a,∃l,keyOf π 387 (yM s)=W l
theorem oz(g:List Tp.Nd)(E:List Nat)(v:Value)(L:NS)(o a:Nat)(w:World)(P:yc w L g v)(N:w.heap[o]? =W (J #[V I 0,v,Y (W ⟨a,0,O⟩) g.length g.length] 319 (0,0)))(q:PR w a (xP (List.replicate g.length 0)))(X:Glob w)(ab:Ag g)(y:∀k,L k->k < w.heap.size/\k≠a)(a6:g.length<=200)(H:o≠a)(b2:10<=a)(s:Tp.classes g=W E):
 Calls π 117 #[Z (W ⟨o,0,O⟩)] w λe w'=>e=ρ (Y (W ⟨a,0,O⟩) g.length g.length)/\PR w' a (xP E)/\Far (·=a) w w':=by
 have z:∀(b:List Nat) (c:World),Far (·=a) w c->PR c a (xP b)->b.length=g.length->(∀d∈b,d<=1000000)->Calls π 161 #[Z (W ⟨o,0,O⟩)] c λe w'=>e=ρ (V I ((Tp.round g b).2:Int))/\PR w' a (xP (Tp.round g b).1)/\Far (·=a) c w':=by
  intro b c m i a2 a0;have h:=ab b a2 a0;exact qv g b v L o a c (P.far m (λk r _ e=>(y k r).2 e)) (m.heap N H) i a2 a0 (X.far m (λk r e=>by omega)) h.1 h.2 (λk r=>⟨zK (y k r).1 m.size,(y k r).2⟩) a6 H
 have G:=z _ w (ξ _ w) q (by simp) (λd i=>by rw[List.eq_of_mem_replicate i];omega);unfold Tp.classes at s;have D:∀c,Far (·=a) w c->c.heap[o]? =W (J #[V I 0,v,Y (W ⟨a,0,O⟩) g.length g.length] 319 (0,0)):=λc m=>m.heap N H;have F:=qu g;have C:=tq g;have R:=tw g;obtain⟨b0,b6,rfl,_⟩:=P.form;obtain⟨u,ad⟩:∃u,g.length=u:=⟨_,rfl⟩;rw[ad]at G z s a6 D F C R ⊢;obtain⟨bm,S,bw,bs,ao,al⟩:=zx6 z G D s F C;have b5:=zD R;clear z G D s F C R P N q X ab y ad
 go_enter func117,ntmps117
 go_wp2_with fail
 refine S.out.mono ?_;rintro e b3 ⟨rfl,a3,a5⟩;obtain⟨bR,ba⟩:=zx2 a3 a5;clear a3 a5 S
 go_wp2_with fail
 go_loopg [4,5] 202 (λgg bn bx wr=>∃(n l A:Nat) (b:List Nat),A=gg/\bn=V I (n:Int)/\bx=V I (l:Int)/\Tp.refine g A n (b,l)=W E/\PR wr a (xP b)/\b.length=u/\(∀d∈b,d < u)/\Far (·=a) w wr)
 case atStart=>exact⟨0,_,202,_,rfl,rfl,rfl,bs.out,bR.out,ao.out _,λd i=>al.out _ d i,ba.out⟩
 case round=>
  obtain⟨n,l,A,b,rfl,rfl,rfl,j,x,q,M,p⟩:=hrel;cases A with
  |zero=>simp[Tp.refine]at j
  |succ f=>
   simp only[Tp.refine]at j;by_cases av:n < l
   ·rw[if_pos av]at j
    have ac:=bm.out b wr p x q (λd i=>by have:=M d i;omega);have bb:(n:Int) < (l:Int):=by omega
    obtain⟨a4,bk,t⟩:=zx3 ac j p;clear ac j p x M q
    go_wp2_with fail
    refine a4.out.mono ?_;rintro e b1 ⟨rfl,T,an⟩;have be:=zD T;have bD:=zD (t.out.step an (λ_ _ e=>e));clear T an a4 t
    go_wp2_with fail
    go_roundg f
    case rel=>exact⟨l,(Tp.round g b).2,f,(Tp.round g b).1,rfl,rfl,rfl,bk.out,be.out,ao.out _,λd i=>al.out _ d i,bD.out⟩
    case measure=>omega
   ·rw[if_neg av]at j
    injection j with j;subst j;have bb:¬(n:Int) < (l:Int):=by omega
    have b4:=zF (bw.out wr p) 2 rfl;obtain⟨t,a9⟩:=zx2 p x;clear p x M q
    go_wp2_with fail
    go_ret
    exact⟨rfl,a9.out,t.out⟩
end
section
attribute [local go_sem] ak
theorem tC(v:Value)(a:Option Addr)(b c:Nat)(L:v=Y a b c)(G:b<=1000000)(w:World):Calls π 116 #[γ #[V I 0,v]] w λe w'=>(∃k l,e=ρ (Z (W ⟨k,0,O⟩))/\w'.heap[k]? =W (J #[V I 0,v,Y (W ⟨l,0,O⟩) b b] 319 (0,0))/\PR w' l (xP (List.replicate b 0))/\w.heap.size<=l/\w.heap.size<=k/\k≠l)/\Below w.heap.size w w':=by
 subst L;have z:Below w.heap.size w (w.alloc (J #[V I 0,Y a b c] 54)):=(ζ _ w).alloc (η _) _;have o:=af w (J #[V I 0,Y a b c] 54);obtain⟨q,r⟩:∃q,w.heap.size=q:=⟨_,rfl⟩;rw[r]at o;obtain⟨i,m,_⟩:=bO o;obtain⟨j,P⟩:=zx2 z r;clear z o
 go_enter func116,ntmps116
 go_upto_region 1 with (fail)
 generalize (w.alloc (J #[V I 0,Y a b c] 54))=d at *;clear r;obtain⟨g,F,y,C⟩:=fP b G d.drew;have A:Far xO d g:=((ξ xO d).drew).below C;obtain⟨p,f⟩:=zx2 y A;clear y C A
 go_region_held3 (λu=>u.cell? ⟨q,0,O⟩=W (V I 0)/\u.cell? ⟨q,1,O⟩=W (Y a b c)) (first|exact⟨i,m⟩|exact⟨(f.out.at i id),(f.out.at m id)⟩|exact⟨((f.out.alloc _).at i id),((f.out.alloc _).at m id)⟩) (fail)
 have n:Far xO g (g.alloc (J #[V I 0,Y a b c,Y (W ⟨d.heap.size,0,O⟩) b b] 319)):=(ξ _ g).alloc _;have M:d.heap.size < g.heap.size:=p.out.lt;have x:=af g (J #[V I 0,Y a b c,Y (W ⟨d.heap.size,0,O⟩) b b] 319);have t:=p.out.far n id;have N:=j.out.size;have s:=j.out.trans ((f.out.trans n).to_below j.out.size (λ_ _ e=>e));obtain⟨E,H,D⟩:=zx3 x t s;clear n x t s F p f j i m
 go_wp2_with fail
 go_ret
 exact⟨⟨_,_,rfl,E.out,H.out,by omega,by omega,by omega⟩,D.out⟩
theorem mR(g:List Tp.Nd)(C:List Nat)(v:Value)(t:NS)(w:World)(p:yc w t g v)(l:∀k,t k->k < w.heap.size)(s:Glob w)(X:yt g)(S:Tp.okGr 0 g=true)(a0:Ag g)(a2:Tp.classes g=W C)(a3:g.length<=200):
 Calls π 82 #[γ #[V I 0,v]] w λe w'=>(∃b,e=ρ (.tuple #[Y (W ⟨b,0,O⟩) g.length g.length,V I 0])/\PR w' b (xP C)/\w.heap.size<=b)/\Below w.heap.size w w':=by
 have c:Below w.heap.size w (w.alloc (J #[V I 0,v] 54)):=(ζ _ w).alloc (η _) _;have d:=af w (J #[V I 0,v] 54);have M:=iE 0 t g v _ (p.below c) (λk j=>zK (l k j) c.size) (s.step c) X S;have A:=λn b f (H:Below w.heap.size w f) (bD:w.heap.size<=b) o m (D:n≠b)=>oz g C v t n b f (p.below H) o m (s.step H) a0 (λk j=>⟨zK (l k j) H.size,by have:=l k j;omega⟩) a3 D (by have:=s.1;omega) a2;obtain⟨q,u⟩:∃q,w.heap.size=q:=⟨_,rfl⟩;rw[u]at d;obtain⟨P,a4,_⟩:=bO d;obtain⟨a,N,rfl,_⟩:=p.form;have E:=λf=>tC (Y a g.length N) a g.length N rfl (by omega) f;obtain⟨z,av⟩:∃z,g.length=z:=⟨_,rfl⟩;rw[av]at c d M A E P a4 ⊢;obtain⟨y,x,ac,ab,a1,b0⟩:=zx6 c d M A E u;clear c d M A E p l s X S a0 a2 a3 av
 go_enter func82,ntmps82
 go_upto_region 1 with (fail)
 generalize (w.alloc (J #[V I 0,Y a z N] 54))=bn at *;clear u
 go_wp2_with fail
 refine ac.out.mono ?_;rintro e bs ⟨rfl,L⟩;have R:=(L.block _ (lt_of_heap x.out)).trans x.out;have ao:=y.out.trans (L.mono y.out.size);obtain⟨bk,ba,_⟩:=bO R;have r:=zD ao;clear R L ao ac y x P a4
 go_wp2_with fail
 refine(a1.out _).mono ?_;rintro e bm ⟨⟨n,b,rfl,o,m,a9,bw,D⟩,a6⟩;have G:=r.out.trans (a6.mono r.out.size);have a5:w.heap.size<=b:=Nat.le_trans r.out.size a9;have F:=zD G;have an:=zD (ab.out n b bm G a5 o m D);clear a6 G o m r a1 ab bk ba
 go_wp2_with fail
 refine an.out.mono ?_;rintro e bx ⟨rfl,ad,T⟩;have al:=F.out.trans (T.to_below F.out.size (λi bR e=>by omega));obtain⟨bb,be⟩:=zx2 ad al;clear ad T al an F
 go_wp2_with fail
 go_ret2
 exact⟨⟨_,rfl,bb.out,a5⟩,be.out⟩
end
section
attribute [local go_sem] ak
theorem oD(g:List Tp.Nd)(s:List Nat)(v:Value)(y:NS)(w:World)(t:yc w y g v)(G:∀k,y k->k < w.heap.size)(M:Glob w)(F:yt g)(E:Tp.okGr 0 g=true)(P:Ag g)(R:Tp.classes g=W s)(S:g.length<=200):
 Calls π 57 #[γ #[V I 0,v]] w λe w'=>(∃j c,e=ρ (.tuple #[Z (W ⟨j,0,O⟩),.nilIface])/\w'.heap[j]? =W (J #[V I 0,v,Y (W ⟨c,0,O⟩) g.length g.length] 178 (0,0))/\PR w' c (xP s)/\w.heap.size<=c/\w.heap.size<=j/\j≠c)/\Below w.heap.size w w':=by
 have d:Below w.heap.size w (w.alloc (J #[V I 0,v] 54)):=(ζ _ w).alloc (η _) _;have f:=af w (J #[V I 0,v] 54);have x:=mR g s v y _ (t.below d) (λk ab=>zK (G k ab) d.size) (M.step d) F E P R S;obtain⟨q,o⟩:∃q,w.heap.size=q:=⟨_,rfl⟩;rw[o]at f;obtain⟨A,T,_⟩:=bO f;obtain⟨a,z,rfl,_⟩:=t.form;obtain⟨b,N⟩:∃b,g.length=b:=⟨_,rfl⟩;rw[N]at d f x A T ⊢;obtain⟨l,p,L,a3⟩:=zx4 d f x o;clear d f x t G M F E P R S N
 go_enter func57,ntmps57
 go_upto_region 1 with (fail)
 generalize (w.alloc (J #[V I 0,Y a b z] 54))=an at *;clear o
 go_wp2_with fail
 refine L.out.mono ?_;rintro e i ⟨⟨c,rfl,r,X⟩,u⟩;have C:=(u.block _ (lt_of_heap p.out)).trans p.out;have m:=l.out.trans (u.mono l.out.size);obtain⟨a0,ao,_⟩:=bO C;have n:Far xO i (i.alloc (J #[V I 0,Y a b z,Y (W ⟨c,0,O⟩) b b] 178)):=(ξ _ i).alloc _;have H:=af i (J #[V I 0,Y a b z,Y (W ⟨c,0,O⟩) b b] 178);have D:=r.far n id;have a1:=r.lt;have a2:w.heap.size<=c:=Nat.le_trans l.out.size X;have av:=m.size;obtain⟨ad,al⟩:=zx2 H D;have ac:=zD (m.trans (n.to_below m.size (λ_ _ e=>e)));clear n H D u m C r l p L A T
 go_wp2_with fail
 go_ret2
 exact⟨⟨_,_,rfl,ad.out,al.out,by omega,by omega,by omega⟩,ac.out⟩
end
section
attribute [local go_sem] ak
theorem k9(b i:List Nat)(l M v:Value)(av ba:NS)(y n:Nat)(w:World)(q:Row w av b.length l (xP b))(N:w.heap[y]? =W (J #[V I 0,v,M] 178 (0,0)))(u:Row w ba n M (xP i))(R:i.length=n)(d:∀k∈b,k < n)(b0:b.length<=1000000):
 Calls π 90 #[Z (W ⟨y,0,O⟩),l] w λe w'=>(∃H,e=ρ H/\Row w' (New w) b.length H (xP (b.map λk=>i.getD k 0)))/\Below w.heap.size w w':=by
 obtain⟨a2,bb,al,bn,a9⟩:=info_parts gI;obtain⟨a,G,rfl,_⟩:=q.form;obtain⟨b2,ad,rfl,_⟩:=u.form;obtain⟨f,s⟩:∃f,b.length=f:=⟨_,rfl⟩;rw[s]at q b0 ⊢;obtain⟨bw,E,bx,a1⟩:=zx4 q N u d;have C:=zD (θ s R);clear q N u d s R
 go_enter func90,ntmps90
 go_wp2_with fail
 go_loopw [5,10] (λbe x wr=>∃(t:Nat) (o:Option Addr) (p r:Nat),be=Y o p r/\t<=f/\x=V I (t:Int)/\wr.ownsRow w.heap.size 3 1 (Y o p r) t (xP ((b.take t).map λk=>i.getD k 0))/\Below w.heap.size w wr) (λ_ x _=>f - (Lib.intOf x).toNat)
 case atStart=>exact⟨0,_,_,_,rfl,z_ _,rfl,World.ownsRow_nil _ _ _ _,ζ _ _⟩
 case round=>
  obtain⟨t,o,p,r,rfl,b5,rfl,g,c⟩:=hrel;by_cases ac:t < f
  ·obtain⟨k,d⟩:∃k,b[t]? =W k:=⟨_,zE (by rw[C.out.1];exact ac)⟩
   have S:=a1.out k (zL d);obtain⟨m,D⟩:∃G,i[k]? =W G:=⟨_,zE (by rw[C.out.2];exact S)⟩;obtain⟨cm,b4,b6,T,_,b3,ch⟩:=(bw.out.below c).nat d;injection T with e11 e12 e13;clear e12;subst e11 e13;obtain⟨bk,a0,ck,a6,_,cl,cb⟩:=(bx.out.below c).nat D;injection a6 with e21 e22 e23;clear e22;subst e21 e23;have cf:wr.cell? ⟨y,2,O⟩=W (Y (W ⟨bk,a0,O⟩) n ad):=ae ((c.block _ (lt_of_heap E.out)).trans E.out) 2;have P:xP ((b.take (t+1)).map λk=>i.getD k 0)=xP ((b.take t).map λk=>i.getD k 0)++[V I (m:Int)]:=by
    rw[zG,d,List.map_append];simp[xP,zY,D]
   have ab:(t:Int) < (f:Int):=by omega
   have ca:(0:Int)<=(t:Int):=by omega
   have b1:(k:Int) < (n:Int):=by omega
   have co:(0:Int)<=(k:Int):=by omega
   have z:Below w.heap.size w (wr.alloc (J #[V I (m:Int)] 3)):=c.alloc c.size _;have F:=am g ((ξ xO wr).alloc (J #[V I (m:Int)] 3)) (λ_ _ e=>e);obtain⟨a3,L⟩:=zx2 F z;have ao:=zD g.lt;have a5:=zD P;have bD:=z.size;clear g F z c d D P
   go_wp2_with (at_builtin;refine wpList_append_own _ rfl (.tmp 14) (.tmp 22) 122 rfl w.heap.size 3 a2 _ 1 8 underlying122 bb al bn a9 rfl (by decide) (Y o p r) t _ rfl a3.out ⟨wr.heap.size,0,O⟩ 1 1 [V I (m:Int)] rfl rfl (λj b9 X=>by rw[gK];exact(ae (af _ _) j).trans (by simpa using X)) (by simp[Value.oneCell']) (by unfold maxLen;omega) (by omega) (by simpa using bD) ?_;intro cc w5 A bR _)
   obtain⟨gg,cap,rfl,b8,_⟩:=aA A;rw[<-a5.out]at A;have bs:=L.out.grown bR L.out.size (λk e=>(ao.out k e).1)
   go_roundw
   case rel=>exact⟨t+1,_,_,_,rfl,by omega,by go_num,A,bs⟩
   case measure=>simp[Lib.intOf];omega
  ·obtain rfl:t=f:=by omega
   have ab:¬(t:Int) < (t:Int):=by omega
   rw[zR (by rw[C.out.1];omega)]at g;have an:=cz g;subst an;have a4:=zD (az g);have bm:=zD c;clear g c
   go_wp2_with fail
   go_ret
   exact⟨⟨_,rfl,a4.out⟩,bm.out⟩
end
def clF(a:List Nat)(t:Nat):List Nat:=Tp.firsts (a.take t)
theorem uL(a:List Nat)(t b:Nat)(c:a[t]? =W b)(d:b∈clF a t):clF a (t+1)=clF a t:=by
 unfold clF at *;rw[zG,c];show Tp.firsts (a.take t++[b])=_;rw[cD,if_pos d]
theorem mS(a:List Nat)(t b:Nat)(c:a[t]? =W b)(d:b ∉ clF a t):clF a (t+1)=clF a t++[b]:=by
 unfold clF at *;rw[zG,c];show Tp.firsts (a.take t++[b])=_;rw[cD,if_neg d]
theorem sF(a:List Nat)(t:Nat):∃s,Tp.firsts a=clF a t++s:=by
 have b:=Tp.dS (a.drop t) (clF a t);obtain⟨s,c⟩:=b;refine⟨s,?_⟩;rw[<-c];unfold clF Tp.fst';rw[Tp.dV,Tp.dV];unfold Tp.fst';rw[<-List.foldl_append,List.take_append_drop]
theorem vN(b:List Nat)(t a:Nat):a∈b.take t↔a∈clF b t:=(Tp.bH _ _).symm
theorem wU(a:List Nat)(t b:Nat)(c:a[t]? =W b)(d:b ∉ clF a t):(Tp.firsts a)[(clF a t).length]? =W b:=by
 obtain⟨s,e⟩:=sF a (t+1);rw[e,mS a t b c d,List.append_assoc,zV (η _),Nat.sub_self];rfl
theorem vO(a:List Nat)(t b:Nat)(d:a[t]? =W b)(g:b ∉ clF a t):Tp.idx a b=t:=by
 have i:=(zM.1 d).1;have f:a=a.take t++(b::a.drop (t+1)):=by
  have c:=(List.take_append_drop t a).symm;rw[aE a t b d]at c;exact c
 have c:b ∉ a.take t:=λe=>g ((vN a t b).1 e);unfold Tp.idx;rw[f,List.idxOf_append,if_neg c,List.idxOf_cons_self,List.length_take];omega
theorem sG(a:List Nat)(t:Nat)(b:a.length<=t):clF a t=Tp.firsts a:=by
 unfold clF;rw[zR b]
section
attribute [local go_sem] ak
theorem kQ(a:Nat)(w:World):Calls π 89 #[Z (W ⟨a,0,O⟩)] w λe w'=>e=ρ (φ (.func 124) #[] #[Z (W ⟨w.heap.size,0,O⟩)])/\w'=w.alloc (J #[Z (W ⟨a,0,O⟩)] 112):=by
 go_enter func89,ntmps89
 go_wp2
 go_ret
 exact⟨rfl,rfl⟩
theorem sm(args:Array Value)(w:World):(callFunc 124 args).run π w=.ok (.enter 124 args) w:=by kernel_rfl
def Bc(b:List Nat)(t:Nat)(c:Array Value)(d:NS)(_:World):Prop:=(∃a:Nat,(Tp.firsts b)[t]? =W a/\c=#[V I (a:Int),V I (Tp.idx b a:Int)])/\d=xO
theorem mM(a:List Nat)(v cf:Value)(m:NS)(M X d:Nat)(w:World)(a4:w.heap[X]? =W (.cells #[.int I 0,v,cf] 178 (0,0)))(ab:w.heap[M]? =W (.cells #[.pointer (W ⟨X,0,O⟩)] 112 (0,0)))(ba:Row w m d cf (xP a))(ch:a.length=d)(an:∀b∈a,b<=1000000)(bR:∀k,m k->k < w.heap.size)(e6:d<=1000000):
 yQ π 124 #[.pointer (W ⟨M,0,O⟩)] 3 (Tp.firsts a).length (Bc a) xO (λk=>k=M\/k=X\/m k) True (λ_ _=>True) (λ_=>True) w:=by
 intro l J d2 E j A cv hF0 D dr a6 b1 av;have cb:=(A.block _ (lt_of_heap a4)).trans a4;have bk:=(A.block _ (lt_of_heap ab)).trans ab;have b2:=ba.below A;have b0:=A.size;obtain⟨B,al⟩:∃B,w.heap.size=B:=⟨_,rfl⟩;rw[al]at D b0;have bD:∀k,m k->k < B:=λk c=>al ▸ bR k c;have ck:∀k,E k->k < j.heap.size/\¬m k:=λk c=>⟨(a6 0 E j av).2 trivial k c,λe=>(hF0 k c).2 (.inr (.inr e))⟩;obtain⟨c2,c1,rfl,_⟩:=ba.form;have cl:=aL (P:=π) (K:=3) j;have z:Far xO j (j.alloc (.map #[] 0)):=(ξ _ j).alloc _;have d3:=zF (z.heap bk id) 0 rfl;have e2:=zF (z.heap cb id) 2 rfl;have b4:=b2.far z (λ_ _ _ e=>e);have co:=D 0 E j _ av (z.mono (λ_ _ e=>e.elim));have dp:=@run_makeMap π;obtain⟨dc,c9,dn,b6,ds,cm⟩:=zx6 b1 a6 D bD an ch;obtain⟨R,c6,c3,bx⟩:=zx4 ck b4 co cl;clear b1 a6 D dr bD an ch ck b4 co cl hF0 av A cv a4 ab ba bR cb bk b2 z al
 go_enter func124,ntmps124
 go_wp2_with fail
 go_step3
 go_wp2_with fail
 go_step3
 go_wp2_with fail
 obtain⟨H,dv⟩:∃c5,j.heap.size=c5:=⟨_,rfl⟩;rw[dv]at bx R b0 ⊢;clear dp
 go_loopw [12] (λT wr=>∃(t:Nat) (f:NS),T=.int I (t:Int)/\t<=d/\xW π 3 wr H (yo (clF a t))/\Row wr m d (Y c2 d c1) (xP a)/\J (clF a t).length f wr/\(∀k,f k->k≠H/\¬m k)) (λT _=>d - (Lib.intOf T).toNat)
 case atStart=>exact⟨0,E,rfl,z_ _,bx.out,c6.out,c3.out,λk c=>⟨by have:=(R.out k c).1;omega,(R.out k c).2⟩⟩
 case round=>
  obtain⟨t,f,rfl,eq,i,s,g,x⟩:=hrel;by_cases S:t < d
  ·obtain⟨b,o⟩:∃b,a[t]? =W b:=⟨_,zE (by rw[cm.out];exact S)⟩
   have an:=ds.out b (zL o);obtain⟨e1,ei,e4,da,_,e3,e0⟩:=s.nat o;injection da with e21 e22 e23;clear e22;subst e21 e23;have d6:(t:Int) < (d:Int):=by omega
   have ex:(0:Int)<=(t:Int):=by omega
   by_cases q:b∈clF a t
   ·have ao:=i.look_in bh underlying196 (jA _) (.int I (b:Int)) (bW b (by omega)) false (.bool true) (List.mem_map.2 ⟨b,q,rfl⟩) (λp a9 _=>by obtain⟨ca,_,rfl⟩:=List.mem_map.1 a9;rfl)
    simp only[Bool.false_eq_true,if_false]at ao;have r:=uL a t b o q;rw[<-r]at i g;obtain⟨C,L,d0,u⟩:=zx4 i s g x;clear i s g x o q r
    go_wp2_with fail
    go_roundw
    case rel=>exact⟨t+1,f,by go_num,S,C.out,L.out,d0.out,u.out⟩
    case measure=>simp[Lib.intOf];omega
   ·have a2:∀p∈yo (clF a t),p.1≠.int I (b:Int):=λp a9 e=>by
     obtain⟨ca,G,df⟩:=eZ _ _ a9;rw[df]at e;simp at e
     have:ca=b:=by omega
     exact q (this ▸ G)
    have ao:=i.look_out bh underlying196 (jA _) (.int I (b:Int)) (bW b (by omega)) false a2;simp only[Bool.false_eq_true,if_false]at ao;obtain⟨ad,d4,bn,ac⟩:=i.put bh underlying196 (.int I (b:Int)) (.bool true) (bW b (by omega)) a2;have r:=mS a t b o q;have bw:xW π 3 ad H (yo (clF a (t+1))):=by
     have:yo (clF a (t+1))=yo (clF a t)++[(.int I (b:Int),.bool true)]:=by rw[r];simp[yo]
     rw[this];exact bn
    have a1:=wU a t b o q;have be:=vO a t b o q;have ct:(clF a (t+1)).length=(clF a t).length+1:=by rw[r];simp
    have d1:(clF a t).length < (Tp.firsts a).length:=(zM.1 a1).1;have cc:=dn.out _ f wr ad g (ac.mono (λk _ e=>⟨λc=>(x k c).1 e,.inr (by omega)⟩));have b3:=s.far ac (λk y _ e=>by have:=b6.out k y;omega);have c4:∀k,f k->k < wr.heap.size:=λk c=>(c9.out _ f wr g).2 trivial k c;have es:=ac.size;have d5:=i.lt;obtain⟨C,L,u⟩:=zx3 bw b3 x;clear i s g x o q r bn bw b3 a2
    go_upto_region 6 with (fail)
    refine(wpIn_wide (n:=4)).1 ?_;obtain⟨e5,er,assign,body,G,bm⟩:=dc.out _ d1 f xO #[.int I (b:Int),.int I (t:Int)] ad cc ⟨⟨b,a1,by rw[be]⟩,rfl⟩ (λk c=>c.elim);have a5:=zD bm;clear bm a1 be
    gi_wp2
    refine(a5.out).mono ?_;rintro e en ⟨a3,⟨F,N⟩,(⟨rfl,a0⟩|⟨rfl,bs⟩)⟩
    ·have b8:=C.out.far F (λe=>(u.out _ e).1 rfl)
     have b5:=L.out.far F (λk y _ e=>(u.out k e).2 y);have b9:∀k,a3 k->k≠H/\¬m k:=by
      intro k c;rcases N k c with c|c|c
      ·exact u.out k c
      ·exact c.elim
      ·exact⟨by omega,λy=>by have:=b6.out k y;omega⟩
     rw[<-ct]at a0;have bb:=zD (θ b8 (θ b5 (θ a0 b9)));clear b8 b5 a0 b9 F N a5 G cc c4 C L u
     gi_wp2
     go_wp2_with fail
     go_roundw
     case rel=>exact⟨t+1,a3,by go_num,S,bb.out⟩
     case measure=>simp[Lib.intOf];omega
    ·have bb:=zD bs
     clear bs F N a5 G
     gi_wp2
     go_wp2_with fail
     try rw[Exit.noGoto_normal]
     go_end0
     exact⟨⟨_,rfl⟩,.inr ⟨a3,bb.out⟩⟩
  ·obtain rfl:t=d:=by omega
   have eg:¬(t:Int) < (t:Int):=by omega
   rw[sG a t (by rw[cm.out];omega)]at g;have c0:=zD g;clear i s g x
   go_wp2_with fail
   try rw[Exit.noGoto_normal]
   go_end0
   exact⟨⟨_,rfl⟩,.inl ⟨f,c0.out,trivial⟩⟩
end
theorem sP{d:World}{b:Nat}{v:List Tp.Nd}{t:Nat}{j:Option Addr}{g l gg cap:Nat}{x:Tp.Nd}{kv u:Value}{c i:World}(a:TyI d b v t j g l c)(ad:b < d.heap.size)(T:v[t]? =W x)(m:NS)(s:∀k,m k->d.heap.size<=k/\k < c.heap.size/\(Value.slice j g l).ownBlock≠W k)
(f:Row c m x.keys.length kv (xV x.keys))(F:Row c m x.kids.length u (xP x.kids))(n:Far (λk=>(Value.slice j g l).ownBlock=W k) c i)(H:(Value.slice j g l).ownBlock=W gg\/c.heap.size<=gg)
(w:List Value)(r:NS)(S:xX c r (v.take t) w)(y:∀k,r k->d.heap.size<=k/\k < c.heap.size/\(Value.slice j g l).ownBlock≠W k)
(C:i.ownsRow d.heap.size 185 6 (Y (W ⟨gg,0,O⟩) (t+1) cap) (t+1) (w++[V I x.k,V I x.x.k,V I x.x.n,xR x.x.s,kv,u])):
 (i.setCell ⟨b,1,O⟩ (Y (W ⟨gg,0,O⟩) (t+1) cap)).heap[b]? =W (J #[V I 0,Y (W ⟨gg,0,O⟩) (t+1) cap] 54 (0,0))/\(i.setCell ⟨b,1,O⟩ (Y (W ⟨gg,0,O⟩) (t+1) cap)).ownsRow d.heap.size 185 6 (Y (W ⟨gg,0,O⟩) (t+1) cap) (t+1) (w++[V I x.k,V I x.x.k,V I x.x.n,xR x.x.s,kv,u])/\xX (i.setCell ⟨b,1,O⟩ (Y (W ⟨gg,0,O⟩) (t+1) cap)) (λk=>r k\/m k) (v.take (t+1)) (w++[V I x.k,V I x.x.k,V I x.x.n,xR x.x.s,kv,u])/\(∀k,(r k\/m k)->d.heap.size<=k/\k < (i.setCell ⟨b,1,O⟩ (Y (W ⟨gg,0,O⟩) (t+1) cap)).heap.size/\(Value.slice (W ⟨gg,0,O⟩) (t+1) cap).ownBlock≠W k)/\Far (·=b) d (i.setCell ⟨b,1,O⟩ (Y (W ⟨gg,0,O⟩) (t+1) cap)):=by
 have X:¬(Value.slice j g l).ownBlock=W b:=λe=>by
  obtain⟨_,⟨R,N,z,_,_⟩,_⟩:=a;have:=(z.lt b e).1;omega
 have L:gg≠b:=by
  have:=(C.lt gg rfl).1;omega
 have M:=n.heap a.hd X;have o:Far (·=b) i (i.setCell ⟨b,1,O⟩ (Y (W ⟨gg,0,O⟩) (t+1) cap)):=Far.setCell (D:=(·=b)) (ξ _ _) (p:=⟨b,1,O⟩) (λ_=>rfl) _;have G:∀k,d.heap.size<=k/\k < c.heap.size/\(Value.slice j g l).ownBlock≠W k->(Value.slice (W ⟨gg,0,O⟩) (t+1) cap).ownBlock≠W k:=λk f e=>by
  simp[Value.ownBlock]at e
  subst e;rcases H with a|a
  ·exact f.2.2 a
  ·omega
 have q:∀(K:NS),(∀k,K k->d.heap.size<=k/\k < c.heap.size/\(Value.slice j g l).ownBlock≠W k)->(∀k,K k->k < c.heap.size->¬(λk=>(Value.slice j g l).ownBlock=W k) k)/\(∀k,K k->k < i.heap.size->¬k=b):=λK E=>⟨λk f _ e=>(E k f).2.2 e,λk f _ e=>by have:=(E k f).1;omega⟩;refine⟨ai M 1 _,am C o (λk e a=>by injection e with e;exact L (e.trans a)),?_,λk f=>?_,(a.far.step n (λk f e=>?_)).step o (λk _ e=>e)⟩
 ·rw[zG,T]
  have ab:=xX.far o (q r y).2 _ _ (xX.far n (q r y).1 _ _ S);have ac:=(f.far n (q m s).1).far o (q m s).2;have P:=(F.far n (q m s).1).far o (q m s).2;exact xX.snoc (ac.mono (λ_ a _=>.inr a)) (P.mono (λ_ a _=>.inr a)) _ _ (xX.mono (λ_ a _=>.inl a) _ _ ab)
 ·have A:d.heap.size<=k/\k < c.heap.size/\(Value.slice j g l).ownBlock≠W k:=by
   rcases f with a|a
   ·exact y k a
   ·exact s k a
  exact⟨A.1,zK A.2.1 (Nat.le_trans n.size o.size),G k A⟩
 ·obtain⟨_,⟨R,N,z,_,_⟩,_⟩:=a
  have:=(z.lt k e).1;omega
theorem iN{w:World}{k:NS}{v:Value}{b:List Tp.Tk}(s:Row w k b.length v (xZ b)):∃a g o f,v=Y a b.length f/\b.length<=maxLen/\∀i t,b[i]? =W t->a=W ⟨g,o,O⟩/\g < w.heap.size/\w.cell? ⟨g,o+i * 3,O⟩=W (V I t.k)/\w.cell? ⟨g,o+i * 3+1,O⟩=W (xR t.s)/\w.cell? ⟨g,o+i * 3+2,O⟩=W (V I (t.a:Int)):=by
 obtain⟨a,g,o,f,m,j,p,c⟩:=s.at
 refine⟨a,g,o,f,m,j,λi t l=>?_⟩;obtain⟨d,u,n⟩:=bE b i t l;obtain⟨q,_,r⟩:=p (by intro e;rw[e]at d;simp at d);exact⟨q,r,c _ _ d,c _ _ u,c _ _ n⟩
theorem mF(a:List Tp.Tk)(i:Nat)(b:List Int)(j:Nat)(k:Int)(c:b[j]? =W k):xY a i (b.take (j+1))=(xY a i (b.take j)||xY a i [k]):=by
 unfold xY;rw[zG,c];cases a[i]? with
 |none=>rfl
 |some t=>simp
theorem mG(b:List Tp.Tk)(i:Nat)(c:List Int)(j:Nat)(a:xY b i (c.take j)=true):xY b i c=true:=by
 unfold xY at a ⊢;split
 ·rename_i t ht
  rw[ht]at a;simp only at a;obtain⟨x,e,d⟩:=List.any_eq_true.1 a;exact List.any_eq_true.2 ⟨x,List.mem_of_mem_take e,d⟩
 ·rename_i ht
  rw[ht]at a;cases a
theorem vM(s x:Int)(v:Value)(c:List Tp.Tk)(ad:NS)(a:Nat)(b:List Int)(a0:b.length<=10)(bm:a<=1000)(n:Nat)(w:World)(T:Row w ad c.length v (xZ c))(ac:∀j,j < b.length->w.cell? ⟨n,j,O⟩=some (V I b[j]!)):
 Calls π 202 #[γ #[V I s,V I x,v],V I (a:Int),Y (some ⟨n,0,O⟩) b.length b.length] w λe w'=>e=ρ (β (xY c a b))/\Below w.heap.size w w':=by
 obtain⟨A,g,o,C,rfl,R,X⟩:=iN T;have a2:c.length<=9223372036854775807:=R;obtain⟨f,M⟩:∃f,c.length=f:=⟨_,rfl⟩;rw[M]at a2 ⊢;have ab:=λW=>wG (a:Int) (f:Int) W;obtain⟨ao,a3⟩:=zx2 X ac;obtain⟨i,q⟩:∃i,b.length=i:=⟨_,rfl⟩;rw[q]at a0 ⊢;have N:=(ζ w.heap.size w).alloc (η _) (J #[V I s,V I x,Y A f C] 220);have L:=af w (J #[V I s,V I x,Y A f C] 220);obtain⟨a1,an⟩:=zx2 N L;clear X ac N L T R;have a6:xY c a (b.take i)=xY c a b:=by rw[<-q,List.take_length]
 go_enter func202,ntmps202
 go_wp2_with fail
 go_loopw [11] (λD wr=>∃j:Nat,j<=i/\D=V I (j:Int)/\xY c a (b.take j)=false/\Below w.heap.size w wr/\wr.heap[w.heap.size]? =some (J #[V I s,V I x,Y A f C] 220 (0,0))) (λD _=>i - (Lib.intOf D).toNat)
 case atStart=>exact⟨0,z_ _,rfl,by rw[List.take_zero];unfold xY;split<;>rfl,a1.out,an.out⟩
 case round=>
  obtain⟨j,bx,rfl,p,m,r⟩:=hrel;have bs:=zF r 2 rfl;by_cases G:j < i
  ·obtain⟨k,P⟩:∃k,b[j]? =some k:=⟨_,zE (by rw[q];exact G)⟩
   have u:=a3.out j (by rw[q];exact G);rw[show b[j]! =k by rw[List.getElem!_eq_getElem?_getD,P];rfl]at u;have be:wr.cell? ⟨n,j,O⟩=some (V I k):=(World.cell?_of_block (w:=w) (m.block n (World.block_lt_of_cell? w ⟨n,j,O⟩ u))).trans u;have d:=mF c a b j k P;rw[p,Bool.false_or]at d;have bw:(0:Int)<=(j:Int):=by omega
   have bk:(j:Int) < (i:Int):=by omega
   obtain⟨l,S⟩:=zx2 m r;clear m r u p;by_cases a4:a < f
   ·obtain⟨t,E⟩:∃t,c[a]? =some t:=⟨_,zE (by rw[M];exact a4)⟩
    obtain⟨rfl,av,H,_⟩:=ao.out a t E;have bb:wr.cell? ⟨g,o+a * 3,O⟩=some (V I t.k):=(World.cell?_of_block (w:=w) (l.out.block g av)).trans H;rw[decide_eq_true (by omega:(a:Int) < (f:Int))]at ab;have bn:(0:Int)<=(a:Int):=by omega
    have ba:(a:Int) < (f:Int):=by omega
    have y:xY c a [k]=(t.k==k):=by unfold xY;rw[E];simp
    rw[y]at d;generalize t.k=K at *;clear H;by_cases F:K=k
    ·subst F
     have a9:=mG c a b (j+1) (d.trans (by simp));clear d
     go_wp2_with fail
     go_ret
     exact⟨by first|rfl|(rw[a9];rfl),l.out⟩
    ·have a5:(K==k)=false:=by simpa using F
     rw[a5]at d;have z:=zD d;clear d
     go_wp2_with fail
     go_roundw
     case rel=>exact⟨j+1,by omega,by go_num,z.out,l.out,S.out⟩
     case measure=>simp[Lib.intOf];omega
   ·rw[decide_eq_false (by omega:¬(a:Int) < (f:Int))]at ab
    have y:xY c a [k]=false:=by unfold xY;rw[List.getElem?_eq_none (by omega)]
    rw[y]at d;have z:=zD d;clear d
    go_wp2_with fail
    go_roundw
    case rel=>exact⟨j+1,by omega,by go_num,z.out,l.out,S.out⟩
    case measure=>simp[Lib.intOf];omega
  ·obtain rfl:j=i:=by omega
   rw[a6]at p;have l:=zD m;clear m r
   go_wp2_with fail
   go_ret
   exact⟨by first|rfl|(rw[p];rfl),l.out⟩
def zc(l:List Tp.Tk):Value:=if Tp.isDash l then .iface 310 (γ #[])else if Tp.isKey l then .iface 311 (γ #[])else .iface 370 (γ #[])
theorem bl(l:List Tp.Tk):Tp.isDash l=xY l 0 [5]:=by
 cases l with
 |nil=>rfl
 |cons t u=>simp[Tp.isDash,xY]
theorem bJ(l:List Tp.Tk):Tp.isKey l=(xY l 0 [1,2]&&xY l 1 [6]):=by
 match l with
 | []=>rfl
 | [t]=>simp[Tp.isKey,xY]
 |t::u::r=>simp[Tp.isKey,xY]
theorem kI(l:List Tp.Tk)(a:Tp.isName1 l=false):xY l 0 [3]=false\/l.length≠1:=by
 match l with
 | []=>exact .inl rfl
 | [t]=>left;simpa [Tp.isName1,xY]using a
 |t::u::r=>right;simp
theorem cr(c f:Int)(v:Value)(l:List Tp.Tk)(a6:NS)(w:World)(a1:Row w a6 l.length v (xZ l))(bs:Tp.isName1 l=false):
 Calls π 154 #[γ #[V I c,V I f,v]] w λe w'=>e=ρ (zc l)/\Below w.heap.size w w':=by
 obtain⟨p,r,rfl⟩:∃a bw,v=Y a l.length bw:=by obtain⟨a,_,_,bw,d,_⟩:=a1;exact⟨_,_,d⟩
 obtain⟨q,bk⟩:∃n,l.length=n:=⟨_,rfl⟩;have P:=af w (J #[V I c,V I f,Y p l.length r] 220);have y:Far xO w (w.alloc (J #[V I c,V I f,Y p l.length r] 220)):=(ξ _ w).alloc _;have a4:(w.alloc (J #[V I c,V I f,Y p l.length r] 220)).heap.size=w.heap.size+1:=by simp
 have a5:∀(R:Nat) (z:List Int) (ab:Nat) (i:World),z.length<=10->R<=1000->Far xO (w.alloc (J #[V I c,V I f,Y p l.length r] 220)) i->(∀j,j < z.length->i.cell? ⟨ab,j,O⟩=W (V I z[j]!))->Calls π 202 #[γ #[V I c,V I f,Y p l.length r],V I (R:Int),Y (W ⟨ab,0,O⟩) z.length z.length] i λe w'=>e=ρ (β (xY l R z))/\Far xO (w.alloc (J #[V I c,V I f,Y p l.length r] 220)) w':=λR z ab i b0 bx E b1=>(vM c f _ l a6 R z b0 bx ab i (a1.far (y.trans E) (λ_ _ _ e=>e)) b1).mono (λe w' d=>⟨d.1,E.trans (Far.of_below d.2 _)⟩);have M:=kI l bs;obtain⟨ba,a2⟩:∃ba,zc l=ba:=⟨_,rfl⟩;have D:=zD a2;rw[a2];clear a2;rw[bk]at a5 M P y a4 ⊢;have bn:∀i:World,Far xO (w.alloc (J #[V I c,V I f,Y p q r] 220)) i->i.cell? ⟨w.heap.size,0,O⟩=W (V I c)/\i.cell? ⟨w.heap.size,1,O⟩=W (V I f)/\i.cell? ⟨w.heap.size,2,O⟩=W (Y p q r):=λi E=>⟨ae (E.heap P (λe=>e)) 0,ae (E.heap P (λe=>e)) 1,ae (E.heap P (λe=>e)) 2⟩;have X:=ξ xO (w.alloc (J #[V I c,V I f,Y p q r] 220));obtain⟨G,b⟩:=zx2 a5 bn;clear a5 bn a1 bs P bk
 go_enter func154,ntmps154
 go_upto_region 1 with (fail)
 obtain⟨L,be⟩:∃L,w.alloc (J #[V I c,V I f,Y p q r] 220)=L:=⟨_,rfl⟩;rw[be]at G b y a4 X ⊢;clear be a4;have a3:=G.out 0 [5] L.heap.size (L.alloc (J #[V I 5] 3)) (by simp) (by omega) (X.alloc _) (λj x=>by
  match j,x with
  |0,_=>exact aY rfl rfl
  )
 simp only[zO,List.length_nil,Nat.zero_add,Nat.reduceAdd]at a3;have bm:=zD a3;clear a3;obtain⟨m,o,k⟩:=b.out L X;obtain⟨t,s,u⟩:=b.out _ (X.alloc (J #[V I 5] 3))
 go_wp2_with fail
 refine bm.out.mono ?_;rintro e ad ⟨rfl,S⟩;clear bm m o k t s u;cases b2:xY l 0 [5] with
 |true=>
  have g:=(y.trans S).to_below (η _) (λ_ _ e=>e)
  go_wp2_with fail
  go_ret
  exact⟨by rw[<-D.out];unfold zc;simp[bl,bJ, *],g⟩
 |false=>
  have ao:=G.out 0 [1,2] ad.heap.size (ad.alloc (J #[V I 1,V I 2] 3)) (by simp) (by omega) (S.alloc _) (λj x=>by
   match j,x with
   |0,_=>exact aY rfl rfl
   |1,_=>exact aY rfl rfl
   )
  simp only[zO,List.length_nil,Nat.zero_add,Nat.reduceAdd]at ao;have bb:=zD ao;clear ao;obtain⟨m,o,k⟩:=b.out ad S;obtain⟨t,s,u⟩:=b.out _ (S.alloc (J #[V I 1,V I 2] 3))
  go_wp2_with fail
  refine bb.out.mono ?_;rintro e H ⟨rfl,F⟩;clear bb m o k t s u;cases b3:xY l 0 [1,2] with
  |true=>
   have al:=G.out 1 [6] H.heap.size (H.alloc (J #[V I 6] 3)) (by simp) (by omega) (F.alloc _) (λj x=>by
    match j,x with
    |0,_=>exact aY rfl rfl
    )
   simp only[zO,List.length_nil,Nat.zero_add,Nat.reduceAdd]at al;have a9:=zD al;clear al;obtain⟨m,o,k⟩:=b.out H F;obtain⟨t,s,u⟩:=b.out _ (F.alloc (J #[V I 6] 3))
   go_wp2_with fail
   refine a9.out.mono ?_;rintro e an ⟨rfl,T⟩;clear a9 m o k t s u;cases b4:xY l 1 [6] with
   |true=>
    have g:=(y.trans T).to_below (η _) (λ_ _ e=>e)
    go_wp2_with fail
    go_ret
    exact⟨by rw[<-D.out];unfold zc;simp[bl,bJ, *],g⟩
   |false=>
    have A:=G.out 0 [3] an.heap.size (an.alloc (J #[V I 3] 3)) (by simp) (by omega) (T.alloc _) (λj x=>by
     match j,x with
     |0,_=>exact aY rfl rfl
     )
    simp only[zO,List.length_nil,Nat.zero_add,Nat.reduceAdd]at A;have N:=zD A;clear A;obtain⟨m,o,k⟩:=b.out an T;obtain⟨t,s,u⟩:=b.out _ (T.alloc (J #[V I 3] 3))
    go_wp2_with fail
    refine N.out.mono ?_;rintro e ac ⟨rfl,C⟩;clear N m o k t s u;obtain⟨m,o,k⟩:=b.out ac C;cases av:xY l 0 [3] with
    |true=>
     rw[av]at M;have bR:¬q=1:=by rcases M with d|d;cases d;exact d
     have a0:¬(q:Int)=1:=by omega
     have bD:((q:Int)==1)=false:=by simpa using a0
     have g:=(y.trans C).to_below (η _) (λ_ _ e=>e)
     go_wp2_with fail
     go_ret
     exact⟨by rw[<-D.out];unfold zc;simp[bl,bJ, *],g⟩
    |false=>
     have g:=(y.trans C).to_below (η _) (λ_ _ e=>e)
     go_wp2_with fail
     go_ret
     exact⟨by rw[<-D.out];unfold zc;simp[bl,bJ, *],g⟩
  |false=>
   have A:=G.out 0 [3] H.heap.size (H.alloc (J #[V I 3] 3)) (by simp) (by omega) (F.alloc _) (λj x=>by
    match j,x with
    |0,_=>exact aY rfl rfl
    )
   simp only[zO,List.length_nil,Nat.zero_add,Nat.reduceAdd]at A;have N:=zD A;clear A;obtain⟨m,o,k⟩:=b.out H F;obtain⟨t,s,u⟩:=b.out _ (F.alloc (J #[V I 3] 3))
   go_wp2_with fail
   refine N.out.mono ?_;rintro e ac ⟨rfl,C⟩;clear N m o k t s u;obtain⟨m,o,k⟩:=b.out ac C;cases av:xY l 0 [3] with
   |true=>
    rw[av]at M;have bR:¬q=1:=by rcases M with d|d;cases d;exact d
    have a0:¬(q:Int)=1:=by omega
    have bD:((q:Int)==1)=false:=by simpa using a0
    have g:=(y.trans C).to_below (η _) (λ_ _ e=>e)
    go_wp2_with fail
    go_ret
    exact⟨by rw[<-D.out];unfold zc;simp[bl,bJ, *],g⟩
   |false=>
    have g:=(y.trans C).to_below (η _) (λ_ _ e=>e)
    go_wp2_with fail
    go_ret
    exact⟨by rw[<-D.out];unfold zc;simp[bl,bJ, *],g⟩
theorem n6{w:World}{i:NS}{v:Value}{a:List Tp.Tk}(c:Row w i a.length v (xZ a)):∃g,TkG w g v a:=by
 obtain⟨b,g,o,cap,f,d,_,e⟩:=c;exact⟨g,b,o,cap,f,d.1,e⟩
theorem iF(bs:Value)(b6:∃a,bs=Z a)(ad a3:Int)(S:Option Addr)(ab a2:Nat)(v:Value)(f:List Tp.Tk)(b8:NS)(d:Nat)(t:Tp.Tree)(w:World)(a0:Row w b8 f.length v (xZ f))(bx:∀t∈f,zf t)(b9:f.length<=100000)(a5:Glob w)(d2:d<=24)(c:Tp.bval f d=W t):
 Calls π 158 #[bs,γ #[V I ad,V I a3,Y S ab a2],v,V I (d:Int)] w λe w'=>(∃q:List Value,e=ρ (.tuple #[γ q.toArray,.nilIface])/\xS w' (New w) t q)/\Below w.heap.size w w':=by
 obtain⟨da,rfl⟩:=b6;obtain⟨dc,d4,dv,rfl⟩:∃a n bb,v=Y a n bb:=by obtain⟨a,_,_,bb,h,_⟩:=a0;exact⟨_,_,_,h⟩
 unfold Tp.bval at c;cases u:Tp.fval (f.length+1) 1 f with
 |none=>rw[u]at c;cases c
 |some y=>
 obtain⟨l,rest⟩:=y;rw[u]at c
 match rest,u,c with
 | [],u,c=>
 simp only at c;split at c
 case isFalse=>cases c
 rename_i hdp
 injection c with c;subst c;have N:Far xO w ((w.alloc (J #[V I ad,V I a3,Y S ab a2] 220)).alloc (J #[V I 0,U ⟨#[]⟩,V I 0,V I 0,U ⟨#[]⟩,Y O 0 0,Y O 0 0] 78)):=((ξ _ w).alloc _).alloc _;have b1:((w.alloc (J #[V I ad,V I a3,Y S ab a2] 220)).alloc (J #[V I 0,U ⟨#[]⟩,V I 0,V I 0,U ⟨#[]⟩,Y O 0 0,Y O 0 0] 78)).heap[w.heap.size+1]? =W (J #[V I 0,U ⟨#[]⟩,V I 0,V I 0,U ⟨#[]⟩,Y O 0 0,Y O 0 0] 78 (0,0)):=ah _ _ _ (by simp);obtain⟨g,bn⟩:=n6 a0;have bk:=pH _ g f (f.length+1) l _ (bn.far N (λe=>e)) bx b9 (a5.far N (λ_ _ e=>e)) u;have ct:=λp=>uI (d:Int) 24 p;rw[decide_eq_false (by omega:¬(24:Int) < (d:Int))]at ct;have bD:Tp.depth l<=1000:=by omega
 have an:=λq p (H:xS p (λk=>w.heap.size+2<=k) l q)=>kY (Tp.depth l) l q _ p (η _) bD H;obtain⟨D,R⟩:∃D,Tp.depth l=D:=⟨_,rfl⟩;rw[R]at hdp bD;simp only[R]at an;have c1:=λp=>uI ((D:Int)+(d:Int) - 1) 24 p;rw[decide_eq_false (by omega:¬(24:Int) < (D:Int)+(d:Int) - 1)]at c1;have d3:IntKind.i64.wrap ((D:Int)+(d:Int))=(D:Int)+(d:Int):=zU _ (by omega);have ei:IntKind.i64.wrap ((D:Int)+(d:Int) - 1)=(D:Int)+(d:Int) - 1:=zU _ (by omega);obtain⟨b3,ba,T,b2⟩:=zx4 bk N b1 an;clear bk N b1 an a0 bx a5 u bn R
 go_enter func158,ntmps158
 go_wp2_with fail
 refine b3.out.mono ?_;rintro e r ⟨⟨q,rfl,H⟩,L⟩;obtain⟨k,E,G,m,s,x,z,F,C,A,o,rfl⟩:=H.form;have a9:=aa (J #[V I k,U E,V I G,V I m,U s,Y x z F,Y C A o] 78) ((L.block _ (lt_of_heap T.out)).trans T.out);have a6:=af r (J #[V I k,U E,V I G,V I m,U s,Y x z F,Y C A o] 78);have P:=(ξ xO r).alloc (J #[V I k,U E,V I G,V I m,U s,Y x z F,Y C A o] 78);have X:xS (r.alloc (J #[V I k,U E,V I G,V I m,U s,Y x z F,Y C A o] 78)) (λk=>w.heap.size+2<=k) l _:=xS.mono (λk ac _=>by have h:_<=k:=ac;simpa using h) _ _ (xS.far P (λ_ _ _ e=>e) _ _ H);have b5:Below w.heap.size w (r.alloc (J #[V I k,U E,V I G,V I m,U s,Y x z F,Y C A o] 78)):=((ba.out.to_below (η _) (λ_ _ e=>e)).trans (L.mono (by simp;omega))).trans (P.to_below (by have:=L.size;simp at this;omega) (λ_ _ e=>e.elim));have be:=b2.out _ _ X;have dn:w.heap.size+1 < r.heap.size:=by have:=L.size;simp at this;omega
 obtain⟨dr,cf⟩:∃ch,r.heap.size=ch:=⟨_,rfl⟩;obtain⟨ao,bw,av,b4,a1⟩:=zx5 a9 X b5 be a6;clear H L a9 P X b5 be a6 b3 ba T b2
 go_wp2_with fail
 refine b4.out.mono ?_;rintro e w5 ⟨rfl,M⟩;have b:=(M.block _ (lt_of_heap ao.out)).trans ao.out;have j:=(M.block _ (lt_of_heap a1.out)).trans a1.out;have b0:=xS.far (Far.of_below M xO) (λ_ _ _ e=>e) _ _ bw.out;have bR:=av.out.trans (M.mono av.out.size);have c6:=zF b 0 rfl;have d1:=ag b 0;have cb:=zF j 0 rfl;have df:=zF b 1 rfl;have db:=ag b 1;have c0:=zF j 1 rfl;have c3:=zF b 2 rfl;have en:=ag b 2;have ca:=zF j 2 rfl;have c9:=zF b 3 rfl;have c4:=ag b 3;have co:=zF j 3 rfl;have dp:=zF b 4 rfl;have eg:=ag b 4;have cc:=zF j 4 rfl;have ds:=zF b 5 rfl;have d5:=ag b 5;have cm:=zF j 5 rfl;have c5:=zF b 6 rfl;have d6:=ag b 6;have c2:=zF j 6 rfl;rw[cf]at cb c0 ca co cc cm c2;obtain⟨ck,cl,bm⟩:=zx3 b b0 bR;clear b j b0 bR M ao bw av b4 a1
 go_wp2_with fail
 obtain⟨cv,a4⟩:=aG ck.out (V I k) (U E) (V I G) (V I m) (U s) (Y x z F) (Y C A o);exact bodyPost_ret (aO results158 _ _ _ _ cv rfl rfl) rfl ⟨⟨_,rfl,xS.base (xS.far a4 (λk (ac:w.heap.size+2<=k) _ e=>by omega) _ _ cl.out) (λk ac=>by omega)⟩,bm.out.trans (a4.to_below bm.out.size (λi d0 e=>by omega))⟩
theorem ve(r c b:Nat)(s:NS)(D e:Tp.En)(q:List Tp.En)(v:Value)(w:World)(o:yp w r c b s (D::q))(G:Row w s e.l.length v (xZ e.l)):Calls π 236 #[Z (W ⟨r,0,O⟩),γ #[V I e.no,V I e.col,v]] w λx w'=>(∃bn,x=ρ bn)/\yp w' r c b s (e::q)/\Far (·=c) w w':=by
 obtain⟨d,f,g,rfl⟩:∃a n R,v=Y a n R:=by obtain⟨a,_,_,R,o,_⟩:=G;exact⟨_,_,_,o⟩
 obtain⟨⟨T,b8,cap,z,bb,bm,a6⟩,⟨cb,b4,N,ac,l⟩,a0,bD,ad,A⟩:=o;obtain rfl:=a6 (by simp);unfold x9 at ac;obtain⟨a4,M,bR,rfl,an⟩:=ac;have C:Far xO w (w.alloc (J #[V I e.no,V I e.col,Y d f g] 220)):=(ξ _ w).alloc _;have H:(w.alloc (J #[V I e.no,V I e.col,Y d f g] 220)).cell? ⟨r,0,O⟩=W (Y (W ⟨c,b,O⟩) (q.length+1) cap):=aK (lt_of_heap z) (ae z 0);have m:=C.heap N (λe=>e);have a2:(w.alloc (J #[V I e.no,V I e.col,Y d f g] 220)).cell? ⟨c,b,O⟩=W (V I D.no):=(ae m b).trans (l 0 _ rfl);have a9:(w.alloc (J #[V I e.no,V I e.col,Y d f g] 220)).cell? ⟨c,b+1,O⟩=W (V I D.col):=(ae m (b+1)).trans (l 1 _ rfl);have a1:(w.alloc (J #[V I e.no,V I e.col,Y d f g] 220)).cell? ⟨c,b+2,O⟩=W a4:=(ae m (b+2)).trans (l 2 _ rfl);have bs:=ag m b;have be:=ag m (b+1);have a3:=ag m (b+2);have a5:(0:Int) < ((q.length+1:Nat):Int):=by omega
 have X:yp ((((w.alloc (J #[V I e.no,V I e.col,Y d f g] 220)).setCell ⟨c,b,O⟩ (V I e.no)).setCell ⟨c,b+1,O⟩ (V I e.col)).setCell ⟨c,b+2,O⟩ (Y d f g)) r c b s (e::q)/\Far (·=c) w ((((w.alloc (J #[V I e.no,V I e.col,Y d f g] 220)).setCell ⟨c,b,O⟩ (V I e.no)).setCell ⟨c,b+1,O⟩ (V I e.col)).setCell ⟨c,b+2,O⟩ (Y d f g)):=by
  have t:Far (·=c) w ((((w.alloc (J #[V I e.no,V I e.col,Y d f g] 220)).setCell ⟨c,b,O⟩ (V I e.no)).setCell ⟨c,b+1,O⟩ (V I e.col)).setCell ⟨c,b+2,O⟩ (Y d f g)):=((((C.mono (D':=(·=c)) (λ_ _ e=>e.elim)).setCell (p:=⟨c,b,O⟩) (λ_=>rfl) _).setCell (p:=⟨c,b+1,O⟩) (λ_=>rfl) _).setCell (p:=⟨c,b+2,O⟩) (λ_=>rfl) _);have al:∀k,s k->k < w.heap.size->¬(k=c):=λk E _ e=>ad (e ▸ E);have bk:=ai (ai (ai m b (V I e.no)) (b+1) (V I e.col)) (b+2) (Y d f g);refine⟨⟨⟨T,_,cap,t.heap z (λe=>a0 e.symm),bb,bm,λ_=>rfl⟩,⟨V I e.no::V I e.col::Y d f g::M,_,bk,?_,λi x j=>?_⟩,a0,bD,ad,λk E=>zK (A k E) t.size⟩,t⟩
  ·unfold x9
   exact⟨_,M,G.far t al,rfl,x9.far t al _ _ an⟩
  ·have bx:=l 0 _ rfl
   have b0:=l 1 _ rfl;have bw:=l 2 _ rfl;have b2:=(Array.getElem?_eq_some_iff.1 bx).1;have b5:=(Array.getElem?_eq_some_iff.1 b0).1;have cf:=(Array.getElem?_eq_some_iff.1 bw).1
   match i,j with
   |0,j=>simp at j ⊢;subst j;simp[Array.getElem?_setIfInBounds];omega
   |1,j=>simp at j ⊢;subst j;simp[Array.getElem?_setIfInBounds];omega
   |2,j=>simp at j ⊢;subst j;simp[Array.getElem?_setIfInBounds];omega
   |i+3,j=>
    rw[Array.getElem?_setIfInBounds_ne (by omega),Array.getElem?_setIfInBounds_ne (by omega),Array.getElem?_setIfInBounds_ne (by omega)];exact l (i+3) x (by simpa using j)
 have F:=zD X;have y:=af w (J #[V I e.no,V I e.col,Y d f g] 220);have S:=zF y 0 rfl;have ao:=zF y 1 rfl;have P:=zF y 2 rfl;clear X z N l G bR an m y C
 go_enter func236,ntmps236
 go_upto_region 1 with (fail)
 obtain⟨L,ab⟩:∃L,w.alloc (J #[V I e.no,V I e.col,Y d f g] 220)=L:=⟨_,rfl⟩;rw[ab]at H a2 a9 a1 bs be a3 F S ao P ⊢;clear ab;obtain⟨u,ba⟩:∃u,q.length+1=u:=⟨_,rfl⟩;rw[ba]at H a5;have b3:0 < u:=by omega
 refine wp_region_noPanic ?_;refine ar (λw'=>w'.cell? ⟨r,0,O⟩=W (Y (W ⟨c,b,O⟩) u cap)/\w'.cell? ⟨w.heap.size,0,O⟩=W (V I e.no)/\w'.cell? ⟨w.heap.size,1,O⟩=W (V I e.col)/\w'.cell? ⟨w.heap.size,2,O⟩=W (Y d f g)) [6] (by kernel_rfl) ?_;refine aJ (by kernel_rfl) (λ_ _ _ _ o=>o) ⟨H,S,ao,P⟩ 1 [0,1,2,3,4,5] _ _ (by kernel_rfl) ?_;iterate 6 (refine xT.take (v:=?_) rfl (by kernel_rfl) ?_ ?_;rotate_left;·(intro ca A;(try dsimp only at A);(try obtain⟨b9,b6,b1,cc⟩:=A);go_simp;try with_reducible rfl);try go_frame)
 refine xT.done ?_;try dsimp only
 refine aq [6] ?_;refine aj rfl (λK av=>?_) xQ.nil
 go_simp
 refine av.out _ _ (λo=>absurd (by simp) o) ?_;clear av K;refine aP (by kernel_rfl) (NoPanic.normal ?_) _
 go_end0
 exact⟨⟨_,rfl⟩,F.out.1.far ((ξ xO _).drew) (λe=>e) (λe=>e) (λ_ _ _ e=>e),F.out.2.drew⟩
theorem wj(a:World):(Instr.typeAssert (.iface 370 (γ #[])) 308 310 true).run π a=.ok (.tuple #[γ #[],β false]) a:=by kernel_rfl
theorem wi(a:World):(Instr.typeAssert (.iface 370 (γ #[])) 308 311 true).run π a=.ok (.tuple #[γ #[],β false]) a:=by kernel_rfl
theorem wg(a:World):(Instr.typeAssert (.iface 370 (γ #[])) 308 313 true).run π a=.ok (.tuple #[γ #[U ⟨#[]⟩],β false]) a:=by kernel_rfl
theorem vP(l:List Tp.Tk)(a:Tp.isPl l=true):zc l=.iface 370 (γ #[])/\Tp.isName1 l=false:=by
 unfold Tp.isPl at a;simp only[zQ,Bool.not_eq_true']at a;unfold zc;rw[a.1.1.1,a.1.1.2];exact⟨rfl,a.1.2⟩
theorem ko(c l u:Nat)(d:NS)(e:Tp.En)(s:List Tp.En)(m:Int)(j:Nat)(t:Tp.Tree)(w:World)(i:yp w c l u d (e::s))(c4:Tp.isPl e.l=true)(c0:∀t∈e.l,zf t)(cc:e.l.length<=100000)(ao:Glob w)(e5:10<=c)(dr:j<=24)(ct:Tp.bval e.l j=some t):
 Calls π 107 #[Z (some ⟨c,0,O⟩),V I m,V I (j:Int)] w λx w'=>(∃z:List Value,x=ρ (.tuple #[γ z.toArray,.nilIface])/\xS w' (New w) t z)/\yp w' c l (u+3) d s/\Far (·=c) w w':=by
 have y:Far xO w (w.alloc (J #[V I 0,U ⟨#[]⟩,V I 0,V I 0,U ⟨#[]⟩,Y O 0 0,Y O 0 0] 78)):=(ξ _ w).alloc _;have bD:=af w (J #[V I 0,U ⟨#[]⟩,V I 0,V I 0,U ⟨#[]⟩,Y O 0 0,Y O 0 0] 78);have F:=i.far y (λe=>e) (λe=>e) (λ_ _ _ e=>e);obtain⟨v,R,a6⟩:=cM c l u d e s _ F;obtain⟨A,D,X,rfl⟩:∃a n a1,v=Y a n a1:=by obtain⟨a,_,_,a1,i,_⟩:=R;exact⟨_,_,_,i⟩
 obtain⟨be,b9⟩:=vP e.l c4;have c5:=λW=>uI (j:Int) 24 W;rw[decide_eq_false (by omega:¬(24:Int) < (j:Int))]at c5;have bx:=ao.far y (λ_ _ e=>e);have d5:=wj;have es:=wi;have e0:=wg;obtain⟨bb,dn,ch,cf,d1,b4⟩:=zx6 a6 F y bD bx R;have b1:=zD be;have ei:=i.lt;have dp:=zD i.tgl;clear a6 F y bD bx R be i ao
 go_enter func107,ntmps107
 go_wp2_with fail
 refine bb.out.mono ?_;rintro x ab ⟨rfl,H⟩;have L:Far xO (w.alloc (J #[V I 0,U ⟨#[]⟩,V I 0,V I 0,U ⟨#[]⟩,Y O 0 0,Y O 0 0] 78)) (ab.alloc (J #[V I e.no,V I e.col,Y A D X] 220)):=(Far.of_below H _).alloc _;have ac:=af ab (J #[V I e.no,V I e.col,Y A D X] 220);have bm:=b4.out.far L (λ_ _ _ e=>e);have N:=cr e.no e.col _ e.l d _ bm b9;rw[b1.out]at N;have d3:w.heap.size < ab.heap.size:=by have:=H.size;simp at this;omega
 obtain⟨a9,b3,T⟩:=zx3 N L ac;clear H L ac bm N bb b1
 go_wp2_with fail
 refine a9.out.mono ?_;rintro x ck ⟨rfl,M⟩;have E:=b3.out.below M;have a4:=(M.block _ (lt_of_heap T.out)).trans T.out;have al:=dn.out.far E (λe=>e) (λe=>e) (λ_ _ _ e=>e);have bR:=ni c l u d e s ck al;obtain⟨ad,p,ba⟩:=zx3 bR E a4;clear M E a4 al bR a9 b3 T
 go_wp2_with fail
 refine ad.out.mono ?_;rintro x o ⟨⟨e4,rfl⟩,S,g⟩;have av:=p.out.heap cf.out (λe=>e);have a3:=g.heap av (by omega);have q:=g.heap ba.out (by omega);have a0:Far (·=c) w o:=((ch.out.trans p.out).mono (D':=(·=c)) (λ_ _ e=>e.elim)).trans g;have a5:=(b4.out.far p.out (λ_ _ _ e=>e)).far g (λk f _ e=>S.tgr (e ▸ f));have bk:=d1.out.far ((p.out.mono (D':=(·=c)) (λ_ _ e=>e.elim)).trans g) (λk f e=>by omega);have a2:=iF (Z (some ⟨c,0,O⟩)) ⟨_,rfl⟩ e.no e.col A D X _ e.l d j t o a5 c0 cc bk dr ct;have df:=zF q 0 rfl;have cl:=zF q 1 rfl;have cb:=zF q 2 rfl;obtain⟨b2,P,bn,bw⟩:=zx4 a2 a3 a0 S;clear S g av a3 q a0 a5 bk a2 ad p ba
 go_wp2_with fail
 refine b2.out.mono ?_;rintro x w5 ⟨⟨z,rfl,G⟩,b0⟩;obtain⟨k,dc,d0,b5,cm,c1,c2,ds,db,c3,b8,rfl⟩:=G.form;have r:=Far.of_below b0 xO;have b:=r.heap P.out (λe=>e);have an:=bw.out.far r (λe=>e) (λe=>e) (λ_ _ _ e=>e);have bs:=bn.out.trans (r.mono (D':=(·=c)) (λ_ _ e=>e.elim));have e1:w.heap.size < o.heap.size:=lt_of_heap P.out;have eg:=zF b 0 rfl;have e3:=ag b 0;have er:=zF b 1 rfl;have eq:=ag b 1;have d2:=zF b 2 rfl;have e9:=ag b 2;have en:=zF b 3 rfl;have d4:=ag b 3;have ex:=zF b 4 rfl;have e8:=ag b 4;have e2:=zF b 5 rfl;have e6:=ag b 5;have d6:=zF b 6 rfl;have e7:=ag b 6;obtain⟨co,cv,c6,da⟩:=zx4 b G an bs;have dv:l≠w.heap.size:=by omega
 have b6:∀k,d k->k < w5.heap.size->¬k=w.heap.size:=λk f _ e=>by have:=dp.out k f;omega
 clear b G an bs r b0 b2 P bn bw df cl cb
 go_wp2_with fail
 obtain⟨c9,C⟩:=aG co.out (V I k) (U dc) (V I d0) (V I b5) (U cm) (Y c1 c2 ds) (Y db c3 b8);exact bodyPost_ret (aO results107 _ _ _ _ c9 rfl rfl) rfl ⟨⟨_,rfl,xS.base (xS.far C (λk (f:o.heap.size<=k) _ e=>by omega) _ _ cv.out) (λk (f:o.heap.size<=k)=>by omega)⟩,c6.out.far C (by omega) dv b6,da.out.step C (λk f e=>by omega)⟩
end Go.Proofs.YtbikgdhbiebhcaaGreatDoor
