/- Part 8. -/
import Derived.Test.YtbikgdhbiebhcaaGreatDoorV07
import Derived.Maps.OwnIn
import Derived.Laws.IdiomCopy
import Derived.Laws.OwnMore
set_option linter.unusedVariables false
set_option linter.unusedSimpArgs false
set_option maxRecDepth 100000
set_option maxHeartbeats 2000000
open Go.Value renaming int -> V, string -> U, slice -> Y, pointer -> Z, func -> φ, agg -> γ, bool -> β
open Go.IntKind renaming i64 -> I
open Option renaming some -> W, none -> O
open Go.Obj renaming cells -> J
open Go.Ending renaming returned -> ρ
open Go.Proofs.Tryz renaming prog -> π
open Nat renaming le_refl -> η
open Go.RowKit.Below renaming refl -> ζ
namespace Go.Proofs.YtbikgdhbiebhcaaGreatDoor
open Go.RowKit Tryz
theorem uG:(prog.info? 30).map (λi=>(i.zero,i.size,i.bytes))=W (W (γ #[V I 0,V I 0,U ⟨#[]⟩]),3,32):=by kernel_rfl
theorem gI:(prog.info? 3).map (λi=>(i.zero,i.size,i.bytes))=W (W (V I 0),1,8):=by kernel_rfl
def pkid(p:Tp.Sc × Nat):List Value:=[V I (p.2:Int)]
def pkey(p:Tp.Sc × Nat):List Value:=scs p.1
theorem uC:∀(P:List (Tp.Sc × Nat)) (i:Nat) (p:Tp.Sc × Nat),P[i]? =W p->∀j,j < 4->(P.flatMap pcs)[i * 4+j]? =(pcs p)[j]?
 | [],i,p,h,j,hj=>by simp at h
 |q::r,0,p,h,j,hj=>by
  simp at h
  subst h;rw[List.flatMap_cons,Nat.zero_mul,Nat.zero_add,List.getElem?_append_left (by simp[pcs];omega)]
 |q::r,i+1,p,h,j,hj=>by
  have a:=uC r i p (by simpa using h) j hj;rw[List.flatMap_cons,zV (by simp[pcs];omega),<-a];congr 1
  simp[pcs]
  omega
theorem Row.pc{c:NS}{w:World}{n i:Nat}{v:Value}{P:List (Tp.Sc × Nat)}{p:Tp.Sc × Nat}(l:Row w c n v (P.flatMap pcs))(j:P[i]? =W p):∃g o cap,v=Y (W ⟨g,o,O⟩) n cap/\g < w.heap.size/\w.cell? ⟨g,o+i * 4,O⟩=W (V I p.1.k)/\w.cell? ⟨g,o+i * 4+1,O⟩=W (V I p.1.n)/\w.cell? ⟨g,o+i * 4+2,O⟩=W (xR p.1.s)/\w.cell? ⟨g,o+i * 4+3,O⟩=W (V I (p.2:Int)):=by
 obtain⟨s,g,o,cap,f,m,r,d⟩:=l;have q:=uC P i p j;have b:P.flatMap pcs≠[]:=λe=>by have:=q 0 (by omega);rw[e]at this;simp[pcs]at this
 obtain⟨rfl,k,a⟩:=d b;exact⟨g,o,cap,f,k,a _ _ (q 0 (by omega)),a _ _ (q 1 (by omega)),a _ _ (q 2 (by omega)),a _ _ (q 3 (by omega))⟩
theorem oW(G:Int)(x:Tp.Nd)(v kv T:Value)(n i:Nat)(N:NS)(w:World)(b:yN w N v n i x kv T)(a0:yx x)(bx:x.k≠1):Calls π 87 #[γ #[V I G,v],V I (i:Int)] w λe w'=>(∃S,e=ρ (.tuple #[S,V I 0])/\Row w' (New w) (Tp.pairs x).length S ((Tp.pairs x).flatMap pkid))/\Below w.heap.size w w':=by
 obtain⟨cc,cm,b9,cv,ck⟩:=info_parts gI;obtain⟨a,a5,b2,db⟩:∃a a5,v=Y a n a5/\True:=by obtain⟨c3,o,cap,e,_⟩:=b.cells;exact⟨_,_,e,trivial⟩
 have D:Below w.heap.size w (w.alloc (J #[V I G,v] 54)):=(ζ _ _).alloc (η _) _;have A:=cj G N v kv T n i x _ (b.below D);have y:=λW (s:Below w.heap.size w W)=>cA x kv T n N W ((b.below s).key) ((b.below s).kid) a0;obtain⟨R,ao,rfl,_⟩:=b.key.form;obtain⟨ad,E,rfl,_⟩:=b.kid.form;subst b2;unfold yH at A y;obtain⟨c,b0⟩:∃c,xR x.x.s=U c:=⟨_,rfl⟩;rw[b0]at A y;have a3:(Tp.pairs x).length < 20:=by
  unfold Tp.pairs;split
  ·rw[<-ce,cg,List.length_zip];have:=a0.1;omega
  ·simp
 obtain⟨a6,F,ba⟩:=zx3 A y D;generalize hP:Tp.pairs x=P at a3 F ⊢;have dv:¬x.k=1:=bx;clear A y D b b0 a0 hP bx
 go_enter func87,ntmps87
 go_wp2_with fail
 refine a6.out.mono ?_;rintro e z ⟨rfl,b1⟩;have H:=cR ba.out b1;have be:Below w.heap.size w (z.alloc (J #[V I x.k,V I x.x.k,V I x.x.n,U c,Y R x.keys.length ao,Y ad x.kids.length E,V I (n:Int)] 256)):=H.alloc H.size _;have m:=zD be;clear b1 H be a6 ba
 go_upto_region 2 with (fail)
 have bw:=af z (J #[V I x.k,V I x.x.k,V I x.x.n,U c,Y R x.keys.length ao,Y ad x.kids.length E,V I (n:Int)] 256);obtain⟨a4,bs,bD,bm,a1,a9,bR,_⟩:=bd bw;generalize s:z.heap.size=da at a4 bs bD bm a1 a9 bR ⊢;clear bw;generalize (z.alloc (J #[V I x.k,V I x.x.k,V I x.x.n,U c,Y R x.keys.length ao,Y ad x.kids.length E,V I (n:Int)] 256))=dm at *;clear s
 go_wp2_with fail
 refine(F.out _ (by first|exact m.out)).mono ?_;rintro e d ⟨⟨S,rfl,l⟩,bq⟩;obtain⟨dc,c2,rfl,_⟩:=l.form;have av:=m.out.trans (bq.mono m.out.size);obtain⟨X,ab⟩:=zx2 l av;have dg:=av.size;have dr:=m.out.size;clear l bq av F m a4 bs bD bm a1 a9 bR;generalize hN:P.length=q at a3 X ⊢
 go_wp2_with fail
 go_loopw [8,33] (λco M wr=>∃(t:Nat) (u:Option Addr) (r C:Nat),co=Y u r C/\t<=q/\M=V I (t:Int)/\wr.ownsRow d.heap.size 3 1 (Y u r C) t ((P.take t).flatMap pkid)/\Below d.heap.size d wr) (λ_ M _=>q - (Lib.intOf M).toNat)
 case atStart=>exact⟨0,_,_,_,rfl,z_ _,rfl,World.ownsRow_nil _ _ _ _,ζ _ _⟩
 case round=>
  obtain⟨t,u,r,C,rfl,df,rfl,g,f⟩:=hrel;by_cases b8:t < q
  ·obtain⟨p,an⟩:∃p,P[t]? =some p:=⟨_,zE (by rw[hN];exact b8)⟩
   obtain⟨dW,c9,dj,b4,c6,dJ,ds,b3,di⟩:=(X.out.below f).pc an;injection b4 with e11 e12 e13;subst e11 e13;obtain⟨SX,L⟩:∃c,xR p.1.s=U c:=⟨_,rfl⟩;rw[L]at b3;have bn:(P.take (t+1)).flatMap pkid=(P.take t).flatMap pkid++[V I (p.2:Int)]:=by
    rw[zG,an,List.flatMap_append];simp[pkid,L]
   have b6:(t:Int) < (q:Int):=by omega
   have dp:(0:Int)<=(t:Int):=by omega
   have bk:Below d.heap.size d ((wr.alloc (J #[V I p.1.k,V I p.1.n,U SX,V I (p.2:Int)] 262)).alloc (J #[V I (p.2:Int)] 3)):=(f.alloc f.size _).alloc (by have:=f.size;simp;omega) _;have a2:=aw (aw g ((ξ xO _).alloc (J #[V I p.1.k,V I p.1.n,U SX,V I (p.2:Int)] 262)) (λ_ _ _ e=>e)) ((ξ xO _).alloc (J #[V I (p.2:Int)] 3)) (λ_ _ _ e=>e);have bb:=g.lt;obtain⟨cf,al,cb,cl⟩:=zx4 a2 bk bb bn;clear g a2 bk f an L bb bn
   go_wp2_with (at_builtin;refine wpList_append_own _ rfl (.tmp 37) (.tmp 40) 122 rfl d.heap.size 3 cc _ 1 8 underlying122 cm b9 cv ck rfl (by decide) (Y u r C) t _ rfl cf.out ⟨wr.heap.size+1,0,O⟩ 1 1 [V I (p.2:Int)] rfl rfl (λj dn b5=>by rw[gK];exact(ae (ah _ _ _ (by simp)) j).trans (by simpa using b5)) (by simp[Value.oneCell']) (by unfold maxLen;omega) (by omega) (Nat.le_trans al.out.size (η _)) ?_;intro dA w5 ac cT _)
   obtain⟨gg,cap,rfl,dl,_⟩:=aA ac;rw[<-cl.out]at ac;have cS:=al.out.grown cT al.out.size (λk e=>(cb.out k e).1)
   go_roundw
   case rel=>exact⟨t+1,_,_,_,rfl,by omega,by go_num,ac,cS⟩
   case measure=>simp[Lib.intOf];omega
  ·obtain rfl:t=q:=by omega
   have b6:¬(t:Int) < (t:Int):=by omega
   rw[zR (by omega)]at g;have l:=az g;have ca:r=t:=by
    rcases g.2 with ⟨b,dC⟩|⟨c0,c4,c1,b,_⟩
    ·injection b with h1 h2 h3
     omega
    ·injection b
   subst ca;have ch:=zD (l.mono (G':=New w) (λk (c5:d.heap.size<=k) _=>(by show w.heap.size<=k;omega)));have ct:=zD (ab.out.trans (f.mono ab.out.size));clear g l f X ab
   go_wp2_with fail
   go_ret2
   exact⟨⟨_,rfl,ch.out⟩,ct.out⟩
theorem oY(G:Int)(x:Tp.Nd)(v kv T:Value)(n i:Nat)(N:NS)(w:World)(b:yN w N v n i x kv T)(a0:yx x):Calls π 86 #[γ #[V I G,v],V I (i:Int)] w λe w'=>(∃S,e=ρ (.tuple #[S,V I 0])/\Row w' (New w) (Tp.pairs x).length S ((Tp.pairs x).flatMap pkey))/\Below w.heap.size w w':=by
 obtain⟨cb,cl,b8,ct,ch⟩:=info_parts uG;obtain⟨a,a5,b1,da⟩:∃a a5,v=Y a n a5/\True:=by obtain⟨c2,o,cap,e,_⟩:=b.cells;exact⟨_,_,e,trivial⟩
 have D:Below w.heap.size w (w.alloc (J #[V I G,v] 54)):=(ζ _ _).alloc (η _) _;have A:=cj G N v kv T n i x _ (b.below D);have y:=λW (s:Below w.heap.size w W)=>cA x kv T n N W ((b.below s).key) ((b.below s).kid) a0;obtain⟨R,ao,rfl,_⟩:=b.key.form;obtain⟨ad,E,rfl,_⟩:=b.kid.form;subst b1;unfold yH at A y;obtain⟨c,bR⟩:∃c,xR x.x.s=U c:=⟨_,rfl⟩;rw[bR]at A y;have a3:(Tp.pairs x).length < 20:=by
  unfold Tp.pairs;split
  ·rw[<-ce,cg,List.length_zip];have:=a0.1;omega
  ·simp
 obtain⟨a6,F,ba⟩:=zx3 A y D;generalize hP:Tp.pairs x=P at a3 F ⊢;clear A y D b bR a0 hP
 go_enter func86,ntmps86
 go_wp2_with fail
 refine a6.out.mono ?_;rintro e z ⟨rfl,b0⟩;have H:=cR ba.out b0;have be:Below w.heap.size w (z.alloc (J #[V I x.k,V I x.x.k,V I x.x.n,U c,Y R x.keys.length ao,Y ad x.kids.length E,V I (n:Int)] 256)):=H.alloc H.size _;have m:=zD be;clear b0 H be a6 ba
 go_upto_region 3 with (fail)
 have bw:=af z (J #[V I x.k,V I x.x.k,V I x.x.n,U c,Y R x.keys.length ao,Y ad x.kids.length E,V I (n:Int)] 256);obtain⟨a4,bs,bx,bm,a1,a9,bD,_⟩:=bd bw;generalize s:z.heap.size=c9 at a4 bs bx bm a1 a9 bD ⊢;clear bw;generalize (z.alloc (J #[V I x.k,V I x.x.k,V I x.x.n,U c,Y R x.keys.length ao,Y ad x.kids.length E,V I (n:Int)] 256))=dl at *;clear s
 go_wp2_with fail
 refine(F.out _ (by first|exact m.out)).mono ?_;rintro e d ⟨⟨S,rfl,l⟩,bq⟩;obtain⟨db,c1,rfl,_⟩:=l.form;have av:=m.out.trans (bq.mono m.out.size);obtain⟨X,ab⟩:=zx2 l av;have df:=av.size;have dp:=m.out.size;clear l bq av F m a4 bs bx bm a1 a9 bD;generalize hN:P.length=q at a3 X ⊢
 go_wp2_with fail
 go_loopw [8,20] (λcm M wr=>∃(t:Nat) (u:Option Addr) (r C:Nat),cm=Y u r C/\t<=q/\M=V I (t:Int)/\wr.ownsRow d.heap.size 30 3 (Y u r C) t ((P.take t).flatMap pkey)/\Below d.heap.size d wr) (λ_ M _=>q - (Lib.intOf M).toNat)
 case atStart=>exact⟨0,_,_,_,rfl,z_ _,rfl,World.ownsRow_nil _ _ _ _,ζ _ _⟩
 case round=>
  obtain⟨t,u,r,C,rfl,dc,rfl,g,f⟩:=hrel;by_cases b6:t < q
  ·obtain⟨p,an⟩:∃p,P[t]? =some p:=⟨_,zE (by rw[hN];exact b6)⟩
   obtain⟨dC,c6,di,b3,c5,dA,dr,b2,dg⟩:=(X.out.below f).pc an;injection b3 with e11 e12 e13;subst e11 e13;obtain⟨SX,L⟩:∃c,xR p.1.s=U c:=⟨_,rfl⟩;rw[L]at b2;have bn:(P.take (t+1)).flatMap pkey=(P.take t).flatMap pkey++[V I p.1.k,V I p.1.n,U SX]:=by
    rw[zG,an,List.flatMap_append];simp[pkey,scs,L]
   have b5:(t:Int) < (q:Int):=by omega
   have dn:(0:Int)<=(t:Int):=by omega
   have bk:Below d.heap.size d ((wr.alloc (J #[V I p.1.k,V I p.1.n,U SX,V I (p.2:Int)] 262)).alloc (J #[V I p.1.k,V I p.1.n,U SX] 30)):=(f.alloc f.size _).alloc (by have:=f.size;simp;omega) _;have a2:=aw (aw g ((ξ xO _).alloc (J #[V I p.1.k,V I p.1.n,U SX,V I (p.2:Int)] 262)) (λ_ _ _ e=>e)) ((ξ xO _).alloc (J #[V I p.1.k,V I p.1.n,U SX] 30)) (λ_ _ _ e=>e);have bb:=g.lt;obtain⟨cc,al,ca,ck⟩:=zx4 a2 bk bb bn;clear g a2 bk f an L bb bn
   go_wp2_with (at_builtin;refine wpList_append_own _ rfl (.tmp 24) (.tmp 27) 28 rfl d.heap.size 30 cb _ 3 32 underlying28 cl b8 ct ch rfl (by decide) (Y u r C) t _ rfl cc.out ⟨wr.heap.size+1,0,O⟩ 1 1 [V I p.1.k,V I p.1.n,U SX] rfl rfl (λj dm b4=>by rw[gK];exact(ae (ah _ _ _ (by simp)) j).trans (by simpa using b4)) (by simp[Value.oneCell']) (by unfold maxLen;omega) (by omega) (Nat.le_trans al.out.size (η _)) ?_;intro ds w5 ac cS _)
   obtain⟨gg,cap,rfl,dj,_⟩:=aA ac;rw[<-ck.out]at ac;have cv:=al.out.grown cS al.out.size (λk e=>(ca.out k e).1)
   go_roundw
   case rel=>exact⟨t+1,_,_,_,rfl,by omega,by go_num,ac,cv⟩
   case measure=>simp[Lib.intOf];omega
  ·obtain rfl:t=q:=by omega
   have b5:¬(t:Int) < (t:Int):=by omega
   rw[zR (by omega)]at g;have l:=az g;have b9:r=t:=by
    rcases g.2 with ⟨b,dv⟩|⟨cT,c3,c0,b,_⟩
    ·injection b with h1 h2 h3
     omega
    ·injection b
   subst b9;have cf:=zD (l.mono (G':=New w) (λk (c4:d.heap.size<=k) _=>(by show w.heap.size<=k;omega)));have co:=zD (ab.out.trans (f.mono ab.out.size));clear g l f X ab
   go_wp2_with fail
   go_ret2
   exact⟨⟨_,rfl,cf.out⟩,co.out⟩
theorem iZ:∀P:List (Tp.Sc × Nat),P.flatMap pkid=xP (P.map (·.2))
 | []=>rfl
 |p::r=>by rw[List.flatMap_cons,iZ r];rfl
theorem qI:∀P:List (Tp.Sc × Nat),P.flatMap pkey=xV (P.map (·.1))
 | []=>rfl
 |p::r=>by rw[List.flatMap_cons,qI r];rfl
theorem bS(b:Int)(x:Tp.Nd)(v kv d:Value)(n i:Nat)(a:NS)(w:World)(f:yN w a v n i x kv d)(g:yx x):Calls π 86 #[γ #[V I b,v],V I (i:Int)] w λe w'=>(∃c,e=ρ (.tuple #[c,V I 0])/\Row w' (New w) (Tp.keysOf x).length c (xV (Tp.keysOf x)))/\Below w.heap.size w w':=by
 have:=oY b x v kv d n i a w f g;rw[qI]at this;unfold Tp.keysOf;rw[List.length_map];exact this
theorem qX(C:Int)(x:Tp.Nd)(v kv R:Value)(n i:Nat)(M:NS)(w:World)(b:yN w M v n i x kv R)(a1:yx x)(ab:x.k=1):Calls π 87 #[γ #[V I C,v],V I (i:Int)] w λe w'=>(∃l,e=ρ (.tuple #[l,V I 0])/\Row w' (New w) x.kids.length l (xP x.kids))/\Below w.heap.size w w':=by
 obtain⟨a,G,a2,b8⟩:∃a G,v=Y a n G/\True:=by obtain⟨b2,o,cap,e,_⟩:=b.cells;exact⟨_,_,e,trivial⟩
 have A:Below w.heap.size w (w.alloc (J #[V I C,v] 54)):=(ζ _ _).alloc (η _) _;have s:=cj C M v kv R n i x _ (b.below A);obtain⟨E,F,rfl,_⟩:=b.key.form;have ac:=b.kid;obtain⟨r,f,rfl,_⟩:=b.kid.form;subst a2;have a0:∀c,Below w.heap.size w c->Calls π 123 #[Y r x.kids.length f] c λe w'=>(∃l,e=ρ l/\Row w' (New c) x.kids.length l (xP x.kids))/\Below c.heap.size c w':=by
  intro c m;have u:=ac.below m;rcases Nat.eq_zero_or_pos x.kids.length with z|z
  ·rw[z,List.length_eq_zero_iff.1 z]
   cases r with
   |none=>exact(slices_Clone_int_nil 0 f c).mono (λe w' b=>⟨⟨_,b.1,cy _ _⟩,by rw[b.2];exact ζ _ _⟩)
   |some ad=>exact(slices_Clone_int_zero ad f c).mono (λe w' b=>by obtain⟨bs,rfl,t,_,m⟩:=b;exact⟨⟨_,rfl,az t⟩,m⟩)
  ·obtain⟨b5,bq⟩:∃bD,x.kids[0]? =W bD:=⟨_,zE z⟩
   obtain⟨g,o,cap,e,_,b4,_⟩:=u.nat bq;injection e with d e2 e3;subst d e3;refine(slices_Clone_int g o x.kids.length f (x.kids.map λi:Nat=>(i:Int)) c (by simp) (by have:=a1.2.2;omega) (λj a5=>?_)).mono (λe w' b=>?_)
   ·have al:j < x.kids.length:=by simpa using a5
    obtain⟨b0,b9,b3,bx,_,_,a6⟩:=u.nat (i:=j) (x:=x.kids[j]) (zE al);injection bx with d e2 e3;injection d with d;injection d with d e4;subst d e4;rw[a6];simp[al,zY]
   ·obtain⟨bs,rfl,t,_,bb⟩:=b
    have d:((x.kids.map λi:Nat=>(i:Int)).take x.kids.length).map (Value.int I)=xP x.kids:=by
     rw[zR (by simp),List.map_map];rfl
    rw[d]at t;exact⟨⟨_,rfl,az t⟩,bb⟩
 unfold yH at s;obtain⟨p,ao⟩:∃p,xR x.x.s=U p:=⟨_,rfl⟩;rw[ao]at s;rw[ab]at s;obtain⟨H,an,L⟩:=zx3 s a0 A;clear s a0 A b ao a1 ac ab
 go_enter func87,ntmps87
 go_wp2_with fail
 refine H.out.mono ?_;rintro e y ⟨rfl,av⟩;have D:=cR L.out av;have N:Below w.heap.size w (y.alloc (J #[V I 1,V I x.x.k,V I x.x.n,U p,Y E x.keys.length F,Y r x.kids.length f,V I (n:Int)] 256)):=D.alloc D.size _;have q:=zD N;clear av D N H L
 go_upto_region 2 with (fail)
 have X:=af y (J #[V I 1,V I x.x.k,V I x.x.n,U p,Y E x.keys.length F,Y r x.kids.length f,V I (n:Int)] 256);obtain⟨a4,bm,bw,ba,a3,a9,bR,_⟩:=bd X;generalize m:y.heap.size=b6 at a4 bm bw ba a3 a9 bR ⊢;clear X;generalize (y.alloc (J #[V I 1,V I x.x.k,V I x.x.n,U p,Y E x.keys.length F,Y r x.kids.length f,V I (n:Int)] 256))=bn at *;clear m
 go_wp2_with fail
 refine(an.out _ (by first|exact q.out)).mono ?_;rintro e b1 ⟨⟨l,rfl,T⟩,P⟩;have S:=T.mono (G':=New w) (λk (u:bn.heap.size<=k) _=>Nat.le_trans q.out.size u);have bk:=zD (q.out.trans (P.mono q.out.size));have be:=zD S;clear T S P q an
 go_wp2_with fail
 go_ret2
 exact⟨⟨_,rfl,be.out⟩,bk.out⟩
theorem bQ(b:Int)(x:Tp.Nd)(v kv d:Value)(n i:Nat)(c:NS)(w:World)(g:yN w c v n i x kv d)(j:yx x):Calls π 87 #[γ #[V I b,v],V I (i:Int)] w λe w'=>(∃f,e=ρ (.tuple #[f,V I 0])/\Row w' (New w) (Tp.kidsOf x).length f (xP (Tp.kidsOf x)))/\Below w.heap.size w w':=by
 unfold Tp.kidsOf;by_cases a:x.k=1
 ·rw[if_pos a]
  exact qX b x v kv d n i c w g j a
 ·rw[if_neg a]
  have:=oW b x v kv d n i c w g j a;rw[iZ]at this;rw[List.length_map];exact this
theorem pp(f:List Nat)(q v:Value)(m:NS)(w:World)(k:Row w m f.length q (xP f))(j:Row w m f.length v (xP f)):Calls π 172 #[q,v] w λe w'=>e=ρ (β true)/\Far xO w w':=by
 obtain⟨a,ab,rfl,o⟩:=k.form;obtain⟨S,d,rfl,_⟩:=j.form;have C:f.length<=9223372036854775807:=o;obtain⟨c,p⟩:∃c,f.length=c:=⟨_,rfl⟩;obtain⟨n,r⟩:=zx2 k j;rw[p]at n r C ⊢;have N:∀b,(binOp .neq 3 (V I (c:Int)) (V I (c:Int))).run π b=.ok (β false) b:=λb=>by simp[go_sem]
 clear k j o
 go_enter func172,ntmps172
 go_wp2_with fail
 go_loopw [13] (λs wr=>∃t:Nat,t<=c/\s=V I (t:Int)/\Far xO w wr) (λs _=>c - (Lib.intOf s).toNat)
 case atStart=>exact⟨0,z_ _,rfl,ξ _ _⟩
 case round=>
  obtain⟨t,X,rfl,g⟩:=hrel;by_cases y:t < c
  ·obtain⟨x,l⟩:∃x,f[t]? =W x:=⟨_,zE (by rw[p];exact y)⟩
   obtain⟨G,F,P,M,_,_,A⟩:=(n.out.far g (λ_ _ _ e=>e)).nat l;obtain⟨z,D,R,E,_,_,H⟩:=(r.out.far g (λ_ _ _ e=>e)).nat l;injection M with e11 e12 e13;injection E with e21 e22 e23;subst e11 e13 e21 e23;have u:(t:Int) < (c:Int):=by omega
   have ac:(0:Int)<=(t:Int):=by omega
   have T:∀b,(binOp .neq 3 (V I (x:Int)) (V I (x:Int))).run π b=.ok (β false) b:=λb=>by simp[go_sem]
   have i:=zD g;clear g l
   go_wp2_with fail
   go_region_held3 (λb=>b.cell? ⟨G,F+t,O⟩=W (V I (x:Int))/\b.cell? ⟨z,D+t,O⟩=W (V I (x:Int))) (exact⟨A,H⟩) (fail)
   have L:=i.out.drew;clear i
   go_wp2_with fail
   go_roundw
   case rel=>exact⟨t+1,by omega,by go_num,L⟩
   case measure=>simp[Lib.intOf];omega
  ·have u:¬(t:Int) < (c:Int):=by omega
   have i:=zD g;clear g
   go_wp2_with fail
   go_ret
   exact⟨rfl,i.out⟩
theorem po(f:List Tp.Sc)(z v:Value)(q:NS)(w:World)(l:Row w q f.length z (xV f))(j:Row w q f.length v (xV f)):Calls π 171 #[z,v] w λe w'=>e=ρ (β true)/\Far xO w w':=by
 obtain⟨a,av,rfl,u⟩:=l.form;obtain⟨an,d,rfl,_⟩:=j.form;have N:f.length<=9223372036854775807:=u;obtain⟨c,y⟩:∃c,f.length=c:=⟨_,rfl⟩;obtain⟨r,A⟩:=zx2 l j;rw[y]at r A N ⊢;have ab:∀b,(binOp .neq 3 (V I (c:Int)) (V I (c:Int))).run π b=.ok (β false) b:=λb=>by simp[go_sem]
 clear l j u
 go_enter func171,ntmps171
 go_wp2_with fail
 go_loopw [13] (λs wr=>∃t:Nat,t<=c/\s=V I (t:Int)/\Far xO w wr) (λs _=>c - (Lib.intOf s).toNat)
 case atStart=>exact⟨0,z_ _,rfl,ξ _ _⟩
 case round=>
  obtain⟨t,ao,rfl,g⟩:=hrel;by_cases L:t < c
  ·obtain⟨x,p⟩:∃x,f[t]? =W x:=⟨_,zE (by rw[y];exact L)⟩
   obtain⟨o,n,ad,T,_,_,M,F,C⟩:=(r.out.far g (λ_ _ _ e=>e)).sc p;obtain⟨k,m,al,P,_,_,R,X,D⟩:=(A.out.far g (λ_ _ _ e=>e)).sc p;injection T with e11 e12 e13;injection P with e21 e22 e23;subst e11 e13 e21 e23;have G:(t:Int) < (c:Int):=by omega
   have a0:(0:Int)<=(t:Int):=by omega
   obtain⟨SX,E⟩:∃H,xR x.s=U H:=⟨_,rfl⟩;rw[E]at C D;have ac:eqL x.k x.n SX x.k x.n SX=true:=by rw[jp];simp
   clear E;have i:=zD g;clear g p
   go_wp2_with fail
   go_region_held3 (λb=>b.cell? ⟨o,n+t * 3,O⟩=W (V I x.k)/\b.cell? ⟨o,n+t * 3+1,O⟩=W (V I x.n)/\b.cell? ⟨o,n+t * 3+2,O⟩=W (U SX)/\b.cell? ⟨k,m+t * 3,O⟩=W (V I x.k)/\b.cell? ⟨k,m+t * 3+1,O⟩=W (V I x.n)/\b.cell? ⟨k,m+t * 3+2,O⟩=W (U SX)) (exact⟨M,F,C,R,X,D⟩) (fail)
   have S:=i.out.drew;clear i
   go_wp2_with fail
   go_roundw
   case rel=>exact⟨t+1,by omega,by go_num,S⟩
   case measure=>simp[Lib.intOf];omega
  ·have G:¬(t:Int) < (c:Int):=by omega
   have i:=zD g;clear g
   go_wp2_with fail
   go_ret
   exact⟨rfl,i.out⟩
theorem ou(K d f:Int)(c:ByteArray)(r:List Tp.Sc)(t:List Nat)(o p g n:Option Addr)(b a m i l q:Nat)(k:NS)(w:World)(x:b=r.length)(z:a=t.length)(F:Row w k b (Y o b m) (xV r))(C:Row w k a (Y p a i) (xP t))(N:Row w k b (Y g b l) (xV r))(D:Row w k a (Y n a q) (xP t)):
 Calls π 170 #[(γ #[V I K,V I d,V I f,U c,Y o b m,Y p a i]),(γ #[V I K,V I d,V I f,U c,Y g b l,Y n a q])] w λe w'=>e=ρ (β true)/\Far xO w w':=by
 have s:Far xO w ((w.alloc (J #[V I K,V I d,V I f,U c,Y o b m,Y p a i] 185)).alloc (J #[V I K,V I d,V I f,U c,Y g b l,Y n a q] 185)):=((ξ _ w).alloc _).alloc _;have v:=aa (J #[V I K,V I d,V I f,U c,Y g b l,Y n a q] 185) (af w (J #[V I K,V I d,V I f,U c,Y o b m,Y p a i] 185));have A:=ah (w.alloc (J #[V I K,V I d,V I f,U c,Y o b m,Y p a i] 185)) (J #[V I K,V I d,V I f,U c,Y g b l,Y n a q] 185) (w.heap.size+1) (by simp);have R:=po r (Y o b m) (Y g b l) k _ (by rw[<-x];exact F.far s (λ_ _ _ e=>e)) (by rw[<-x];exact N.far s (λ_ _ _ e=>e));have T:=λj (H:Far xO w j)=>pp t (Y p a i) (Y n a q) k j (by rw[<-z];exact C.far H (λ_ _ _ e=>e)) (by rw[<-z];exact D.far H (λ_ _ _ e=>e));have a9:eqL d f c d f c=true:=by rw[jp];simp
 have ba:∀j,(binOp .eql 3 (V I K) (V I K)).run π j=.ok (β true) j:=λj=>by simp[go_sem]
 obtain⟨a3,av,al,a1,an,ab,_⟩:=pE v;obtain⟨a4,ad,a5,ao,a2,a0,_⟩:=pE A;obtain⟨P,M,G,S,L⟩:=zx5 R T s v A;clear R T s v A F C N D x z
 go_enter func170,ntmps170
 go_wp2_with fail
 refine P.out.mono ?_;rintro e a6 ⟨rfl,u⟩;have bb:=ae (u.heap S.out id) 5;have u5:=ae (u.heap L.out id) 5;have E:=G.out.trans u;have y:=zD E;clear u E P G S L a3 av al a1 an ab a4 ad a5 ao a2 a0
 go_wp2_with fail
 refine(M.out _ y.out).mono ?_;rintro e be ⟨rfl,X⟩;have ac:=y.out.trans X;clear X M y
 go_wp2_with fail
 go_ret
 exact⟨rfl,ac⟩
theorem qp(g:List Tp.Nd)(S v:Value)(r:NS)(w:World)(A:yc w r g S)(y:yc w r g v):Calls π 173 #[S,v,φ (.func 170) #[] #[]] w λe w'=>e=ρ (β true)/\Far xO w w':=by
 obtain⟨a,a9,rfl,M⟩:=A.form;obtain⟨bm,d,rfl,_⟩:=y.form;have a3:g.length<=9223372036854775807:=M;obtain⟨b,an⟩:∃b,g.length=b:=⟨_,rfl⟩;obtain⟨F,T⟩:=zx2 A y;rw[an]at F T a3 ⊢;have a4:∀o,(binOp .neq 3 (V I (b:Int)) (V I (b:Int))).run π o=.ok (β false) o:=λo=>by simp[go_sem]
 clear A y M
 go_enter func173,ntmps173
 go_wp2_with fail
 go_loopw [17] (λs wr=>∃t:Nat,t<=b/\s=V I (t:Int)/\Far xO w wr) (λs _=>b - (Lib.intOf s).toNat)
 case atStart=>exact⟨0,z_ _,rfl,ξ _ _⟩
 case round=>
  obtain⟨t,bn,rfl,j⟩:=hrel;by_cases a0:t < b
  ·obtain⟨x,p⟩:∃x,g[t]? =W x:=⟨_,zE (by rw[an];exact a0)⟩
   obtain⟨kv,bq,f⟩:=(F.out.far j (λ_ _ _ e=>e)).at p;obtain⟨bw,a6,l⟩:=(T.out.far j (λ_ _ _ e=>e)).at p;obtain⟨b2,bk,bs,ao,ba,bx,be,a5,c3,c4,c5⟩:=f.cells;obtain⟨bR,bb,b1,a2,b0,E,L,D,q,N,R⟩:=l.cells;injection ao with e11 e12 e13;injection a2 with e21 e22 e23;clear e12 e22;subst e11 e13 e21 e23;obtain⟨u,C,rfl,_⟩:=f.key.form;obtain⟨z,n,rfl,_⟩:=f.kid.form;obtain⟨H,ab,rfl,_⟩:=l.key.form;obtain⟨ad,X,rfl,_⟩:=l.kid.form;obtain⟨i,al⟩:∃i,xR x.x.s=U i:=⟨_,rfl⟩;rw[al]at c3 q;have c:Far xO wr (wr.alloc (J #[V I x.k,V I x.x.k,V I x.x.n,U i,Y u x.keys.length C,Y z x.kids.length n] 185)):=(ξ _ wr).alloc _;have k:Far xO wr ((wr.alloc (J #[V I x.k,V I x.x.k,V I x.x.n,U i,Y u x.keys.length C,Y z x.kids.length n] 185)).alloc (J #[V I x.k,V I x.x.k,V I x.x.n,U i,Y H x.keys.length ab,Y ad x.kids.length X] 185)):=c.alloc _;have G:=ou x.k x.x.k x.x.n i x.keys x.kids u z H ad _ _ C n ab X r _ rfl rfl (f.key.far k (λ_ _ _ e=>e)) (f.kid.far k (λ_ _ _ e=>e)) (l.key.far k (λ_ _ _ e=>e)) (l.kid.far k (λ_ _ _ e=>e))
   replace E:=c.at E id
   replace L:=c.at L id
   replace D:=c.at D id
   replace q:=c.at q id
   replace N:=c.at N id
   replace R:=c.at R id
   have av:(t:Int) < (b:Int):=by omega
   have bD:(0:Int)<=(t:Int):=by omega
   have ac:=zD G;have m:=zD (j.trans k);clear j p G c k f l al
   go_wp2_with fail
   refine ac.out.mono ?_;rintro e b3 ⟨rfl,P⟩;have a1:=m.out.trans P;clear P ac m
   go_wp2_with fail
   go_roundw
   case rel=>exact⟨t+1,by omega,by go_num,a1⟩
   case measure=>simp[Lib.intOf];omega
  ·have av:¬(t:Int) < (b:Int):=by omega
   have m:=zD j;clear j
   go_wp2_with fail
   go_ret
   exact⟨rfl,m.out⟩
theorem tg(b:Int)(g:List Tp.Nd)(f v:Value)(k:NS)(w:World)(l:yc w k g f)(i:yc w k g v):Calls π 125 #[γ #[V I b,f],γ #[V I b,v]] w λe w'=>e=ρ (β true)/\Far xO w w':=by
 have c:Far xO w ((w.alloc (J #[V I b,f] 54)).alloc (J #[V I b,v] 54)):=((ξ _ w).alloc _).alloc _;have o:=qp g f v k _ (l.far c (λ_ _ _ e=>e)) (i.far c (λ_ _ _ e=>e));obtain⟨a,u,rfl,_⟩:=l.form;obtain⟨t,d,rfl,_⟩:=i.form;have s:∀j,(binOp .eql 3 (V I b) (V I b)).run π j=.ok (β true) j:=λj=>by simp[go_sem]
 obtain⟨n,m⟩:=zx2 o c;clear o c l i
 go_enter func125,ntmps125
 go_wp2_with fail
 refine n.out.mono ?_;rintro e r ⟨rfl,p⟩;have q:=m.out.trans p;clear p n m
 go_wp2_with fail
 go_ret
 exact⟨rfl,q⟩
section
attribute [local go_sem] ak
theorem mo{w:World}{base:Nat}{e:TypeId}{g n m cap:Nat}{xs:List Value}(b:w.ownsRow base e 1 (Y (W ⟨g,0,O⟩) n cap) n xs)(s:m<=n):w.ownsRow base e 1 (Y (W ⟨g,0,O⟩) m cap) m (xs.take m):=by
 obtain⟨k,l⟩:=b;rcases l with ⟨b,_⟩|⟨q,p,j,a,f,c,r,d,i,o⟩
 ·cases b
 ·injection a with a e1 e2
  injection a with a;injection a with a;subst a e2;refine⟨by rw[List.length_take,k];omega,.inr ⟨g,cap,j,rfl,f,c,by omega,d,i,?_⟩⟩;rw[<-o,List.take_take];congr 1
  omega
def TdD(a:Nat)(v:Value):NS:=λk=>k=a\/v.ownBlock=W k
theorem j4(base a:Nat)(row n:List Nat)(i:Option Addr)(o q:Nat)(l:Value)(a3:NS)(w:World)(cf:row.length+n.length<=1000000000000)(bq:base<=w.heap.size)(P:w.heap[a]? =some (J #[Y i o q] 122 (0,0)))(av:w.ownsRow base 3 1 (Y i o q) row.length (xP row))(bm:(Value.slice i o q).ownBlock≠some a)(N:Row w a3 n.length l (xP n))(a0:∀k,a3 k->¬TdD a (Y i o q) k):
 Calls π 166 #[l,Z (some ⟨a,0,O⟩)] w λe w'=>(∃a9,e=ρ a9)/\(∃f g d,w'.heap[a]? =some (J #[Y f g d] 122 (0,0))/\w'.ownsRow base 3 1 (Y f g d) (row.length+n.length) (xP (row++n.reverse))/\(Value.slice f g d).ownBlock≠some a/\(∀k,(Value.slice f g d).ownBlock=some k->(Value.slice i o q).ownBlock=some k\/w.heap.size<=k))/\Far (TdD a (Y i o q)) w w':=by
 obtain⟨b4,cb,bx,ch,b8⟩:=info_parts gI;obtain⟨da,c3,rfl,b3⟩:=N.form;obtain⟨c,co⟩:∃c,n.length=c:=⟨_,rfl⟩;obtain⟨B,a4⟩:∃B,w.heap.size=B:=⟨_,rfl⟩;rw[co]at N cf ⊢;have c6:IntKind.i64.wrap ((c:Int) - 1)=(c:Int) - 1:=zU _ (by omega);obtain⟨cc,b1,ck,b6,an⟩:=zx5 P av N a0 a4;have c0:=lt_of_heap P;clear P av N a0 b3 a4
 go_enter func166,ntmps166
 go_wp2_with fail
 go_loopw [3] (λad wr=>∃(j:Nat) (f:Option Addr) (g d:Nat),j<=c/\ad=V I ((j:Int) - 1)/\wr.heap[a]? =some (J #[Y f g d] 122 (0,0))/\wr.ownsRow base 3 1 (Y f g d) (row.length+(c - j)) (xP (row++(n.drop j).reverse))/\(Value.slice f g d).ownBlock≠some a/\(∀k,(Value.slice f g d).ownBlock=some k->(Value.slice i o q).ownBlock=some k\/B<=k)/\Far (TdD a (Y i o q)) w wr) (λad _=>((Lib.intOf ad)+1).toNat)
 case atStart=>
  refine⟨c,i,o,q,η _,rfl,cc.out,?_,bm,λk b=>.inl b,ξ _ _⟩;rw[Nat.sub_self,List.drop_of_length_le (by omega)]
  simpa using b1.out
 case round=>
  obtain⟨j,f,g,d,a1,rfl,y,H,G,M,t⟩:=hrel;cases j with
  |zero=>
   have bn:((0:Nat):Int) - 1=-1:=rfl;have T:=H;rw[Nat.sub_zero,List.drop_zero]at T;obtain⟨z,C,A,v,u⟩:=zx5 y T G M t;rw[bn];clear y H T G M t
   go_wp2_with fail
   go_end0
   exact⟨⟨_,rfl⟩,⟨_,_,_,z.out,C.out,A.out,by rw[an.out];exact v.out⟩,u.out⟩
  |succ m=>
   obtain⟨x,S⟩:∃x,n[m]? =some x:=⟨_,zE (by omega)⟩;obtain⟨cl,bR,c4,bs,bw,c2,E⟩:=ck.out.nat S;injection bs with e11 e12 e13;clear e12;subst e11 e13
   replace E:=t.at E (b6.out _ bw)
   rw[show (((m+1:Nat)):Int) - 1=(m:Int)by omega];have cS:IntKind.i64.wrap ((m:Int) - 1)=(m:Int) - 1:=zU _ (by omega);have c1:(m:Int) < (c:Int):=by omega
   have c9:(0:Int)<=(m:Int):=by omega
   have be:xP (row++(n.drop m).reverse)=xP (row++(n.drop (m+1)).reverse)++[V I (x:Int)]:=by
    rw[aE n m x S];simp[xP]
   have al:=zF y 0 rfl;have b5:base<=wr.heap.size:=Nat.le_trans bq t.size;obtain⟨ba,z,C,A,v,u⟩:=zx6 be y H G M t;clear y H G M t be S
   go_upto_region 3 with (fail)
   refine wp_region_noPanic ?_;refine ar (λW=>W.cell? ⟨a,0,O⟩=some (Y f g d)/\W.cell? ⟨cl,bR+m,O⟩=some (V I (x:Int))) [6,7] (by kernel_rfl) ?_;refine aJ (by kernel_rfl) (λ_ _ _ _ b=>b) ⟨al,E⟩ 3 [0,1,2,3,4] _ _ (by kernel_rfl) ?_;iterate 5 (refine Ei ?_;(try go_frame))
   refine xT.done ?_;try dsimp only
   refine aq [5] ?_;refine aj rfl (λK r=>?_) xQ.nil
   go_simp
   have s:Far xO wr (wr.drew.alloc (J #[V I (x:Int)] 3)):=(ξ _ wr).drew.alloc _;refine r.out _ _ (λ_=>⟨s.at al id,s.at E id⟩) ?_;clear r K
   (try go_frame)
   refine aq [6] ?_;refine aj rfl (λK r=>?_) xQ.nil;refine wp_append_lies _ (.tmp 11) (.tmp 16) 122 rfl base 3 b4 _ 1 8 underlying122 cb bx ch b8 rfl (by decide) (Y f g d) (row.length+(c - (m+1))) _ rfl (aw C.out s (λ_ _ _ e=>e)) ⟨wr.heap.size,0,O⟩ 1 1 [V I (x:Int)] ?_ rfl ?_ ?_ (by omega) ?_ ?_ ?_ _ rfl ?_
   ·rfl
   ·intro j a9 a1
    rw[gK];exact(ae (af wr.drew (J #[V I (x:Int)] 3)) j).trans (by simpa using a1)
   ·simp[Value.oneCell']
   ·unfold maxLen;omega
   ·omega
   ·exact Nat.le_trans b5 s.size
   intro gg cap w5 a6 bk ab c5;have b2:=C.out.lt;have X:Far (λk=>(Value.slice f g d).ownBlock=some k) wr w5:=(s.mono (λ_ _ e=>e.elim)).grown bk (λk e _=>e);have F:=X.heap z.out A.out;have ct:wr.heap.size<=(wr.alloc (J #[V I (x:Int)] 3)).drew.heap.size:=s.size;have a5:gg≠a:=by
    rcases ab with b|b
    ·intro e;subst e;exact A.out b
    ·have:=lt_of_heap z.out;omega
   refine r.out _ _ (λb=>absurd (by simp) b) ?_;clear r K
   (try go_frame)
   have cT:=ag F 0;have cv:=zF F 0 rfl;have L:Far (·=a) w5 (w5.setCell ⟨a,0,O⟩ (Y (some ⟨gg,0,O⟩) (row.length+(c - (m+1))+1) cap)):=Far.setCell (D:=(·=a)) (ξ _ _) (p:=⟨a,0,O⟩) (λ_=>rfl) _;have R:=ai F 0 (Y (some ⟨gg,0,O⟩) (row.length+(c - (m+1))+1) cap);have ac:=am a6 L (λk e b=>by injection e with e;exact a5 (e.trans b));rw[<-ba.out,show row.length+(c - (m+1))+1=row.length+(c - m)by omega]at ac;rw[show row.length+(c - (m+1))+1=row.length+(c - m)by omega]at R L ⊢;have bb:Far (TdD a (Y i o q)) w (w5.setCell ⟨a,0,O⟩ (Y (some ⟨gg,0,O⟩) (row.length+(c - m)) cap)):=(u.out.step X (λk bD e=>by
    rcases v.out k e with b|b
    ·exact .inr b
    ·have:=an.out;omega)).step L (λk bD e=>.inl e)
   have a2:∀k,(Value.slice (some ⟨gg,0,O⟩) (row.length+(c - m)) cap).ownBlock=some k->(Value.slice i o q).ownBlock=some k\/B<=k:=λk e=>by
    injection e with e;dsimp only at e
    subst e;rcases ab with b|b
    ·exact v.out _ b
    ·right;have:=an.out;have:=u.out.size;omega
   obtain⟨cm,b9,ca,b0⟩:=zx4 R ac bb a2;clear L R ac bb a2 a6 bk ab X F s b2 al E z C A v u ba;refine aq [7] ?_;refine aj rfl (λK r=>?_) xQ.nil
   go_simp
   refine r.out _ _ (λb=>absurd (by simp) b) ?_;clear r K;refine aP (by kernel_rfl) (NoPanic.normal ?_) _
   go_wp2_with fail
   go_roundw
   case rel=>exact⟨m,_,_,_,by omega,rfl,cm.out,b9.out,by simp[Value.ownBlock,a5],b0.out,ca.out⟩
   case measure=>simp[Lib.intOf]
end
section
attribute [local go_sem] ak
def atM:List Nat->Nat->List (Value × Value)
 | [],_=>[]
 |i::r,k=>(V I (i:Int),V I (k:Int))::atM r (k+1)
theorem nS:∀(l:List Nat) (i k:Nat),atM (l++[i]) k=atM l k++[(V I (i:Int),V I ((k+l.length:Nat):Int))]
 | [],i,k=>rfl
 |j::r,i,k=>by
  rw[List.cons_append,atM,nS r i (k+1),atM,List.cons_append,zO];rw[show k+1+r.length=k+(r.length+1)by omega]
theorem jv:∀(l:List Nat) (k:Nat) (p:Value × Value),p∈atM l k->∃i,i∈l/\p.1=V I (i:Int)
 | [],k,p,a=>by simp[atM]at a
 |j::r,k,p,a=>by
  simp only[atM,List.mem_cons]at a;rcases a with rfl|a
  ·exact⟨j,by simp,rfl⟩
  ·obtain⟨i,a,b⟩:=jv r (k+1) p a
   exact⟨i,by simp[a],b⟩
theorem sK:∀(l:List Nat) (k i:Nat),i∈l->(Value.int I (i:Int),Value.int I ((k+l.idxOf i:Nat):Int))∈atM l k
 | [],k,i,a=>by simp at a
 |j::r,k,i,a=>by
  by_cases e:i=j
  ·subst e;simp[atM]
  ·have b:i∈r:=by simpa [e]using a
   have:=sK r (k+1) i b;simp only[atM,List.mem_cons];right
   rw[List.idxOf_cons,show (j==i)=false by simpa using λa=>e a.symm];simp only[cond_false];rw[show k+(r.idxOf i+1)=k+1+r.idxOf i by omega];exact this
theorem mW:∀(l:List Nat) (k i:Nat),l.Nodup->∀p∈atM l k,p.1=V I (i:Int)->p.2=V I ((k+l.idxOf i:Nat):Int)
 | [],k,i,_,p,a,_=>by simp[atM]at a
 |j::r,k,i,hn,p,a,h1=>by
  obtain⟨d,f⟩:=List.nodup_cons.1 hn;simp only[atM,List.mem_cons]at a;rcases a with rfl|a
  ·simp at h1
   have:j=i:=by omega
   subst this;simp
  ·obtain⟨m,c,b⟩:=jv r (k+1) p a
   rw[b]at h1;simp at h1
   have:m=i:=by omega
   subst this;have e:m≠j:=λe=>d (e ▸ c);rw[mW r (k+1) m f p a b,List.idxOf_cons,show (j==m)=false by simpa using λa=>e a.symm];simp only[cond_false];rw[show k+(r.idxOf m+1)=k+1+r.idxOf m by omega]
theorem bh:Maps.Keyed π 3:=Maps.int_keyed underlying3
theorem bW(n:Nat)(a:n<=9223372036854775807):keyOf π 3 (.int I (n:Int))=W (.int I (n:Int)):=Maps.keyOf_int_mk underlying3 (uO _ (by omega) (by omega))
theorem gC(w:World):(zeroValue 3).run π w=.ok (V I 0) w:=by kernel_rfl
theorem iJ(g:List Tp.Nd):∀(c:Nat) (f a b:List Nat),Tp.walk g c f a=W b->∃s,b=a++s
 |0,_,_,_,h=>by simp[Tp.walk]at h
 |c+1,[],a,b,h=>by
  simp[Tp.walk]at h
  exact⟨[],by simp[h]⟩
 |c+1,i::r,a,b,h=>by
  simp only[Tp.walk]at h;by_cases d:i∈a
  ·rw[if_pos d]at h
   exact iJ g c r a b h
  ·rw[if_neg d]at h
   obtain⟨s,e⟩:=iJ g c _ _ b h;exact⟨i::s,by rw[e];simp⟩
theorem oR(a:Nat)(w:World):Calls π 120 #[Z (W ⟨a,0,O⟩)] w λe w'=>e=ρ (φ (.func 165) #[] #[Z (W ⟨w.heap.size,0,O⟩)])/\w'=w.alloc (J #[Z (W ⟨a,0,O⟩)] 181):=by
 go_enter func120,ntmps120
 go_wp2
 go_ret
 exact⟨rfl,rfl⟩
theorem si(args:Array Value)(w:World):(callFunc 165 args).run π w=.ok (.enter 165 args) w:=by kernel_rfl
theorem bj(x:Tp.Nd):∀i∈Tp.kidsOf x,i∈x.kids:=by
 intro i a;unfold Tp.kidsOf Tp.pairs at a;split at a
 ·exact a
 ·split at a
  ·obtain⟨p,b,rfl⟩:=List.mem_map.1 a
   have:=(Tp.cW (x.keys.zip x.kids)).2 p;exact(List.of_mem_zip (this.1 b)).2
  ·simp at a
theorem bI(x:Tp.Nd):(Tp.kidsOf x).length<=x.kids.length:=by
 unfold Tp.kidsOf Tp.pairs;split
 ·exact η _
 ·split
  ·rw[List.length_map,(Tp.cW _).1,List.length_zip];omega
  ·simp
end
section
attribute [local go_sem] ak
theorem cz{w:World}{base:Nat}{e:TypeId}{size n b d:Nat}{c:Option Addr}{xs:List Value}(a:w.ownsRow base e size (Y c b d) n xs):b=n:=by
 rcases a.2 with ⟨a,i⟩|⟨j,g,f,a,_⟩
 ·injection a with h1 h2 h3
  omega
 ·injection a
theorem wI(a:World)(b:Nat)(c:Array MapEntry)(f:Nat)(d:a.heap[b]? =W (.map c f))(e:TypeId):(Builtin.len_ #[249] e #[.map (W b)]).run π a=.ok (V I (c.size:Int)) a:=by
 simp[Builtin.len_,run_underlying underlying249,MapKept.run_getObj_map d,goInt,Result.andThen]
structure WkR(g:List Tp.Nd)(GG:NS)(ws:List Nat)(root wb mb bx B N:Nat)(v:Value)(J:Nat->NS->World->Prop)(gg:Nat)(todo met:List Nat)(F:NS)(sa:Option Addr)(sn sc:Nat)(W:World):Prop where
 wk:Tp.walk g gg todo met=some ws
 nd:met.Nodup
 small:todo.length+gg * 100000<=2000000001
 inb:∀i∈todo,i < N
 td:W.heap[B+1]? =some (.cells #[Y sa sn sc] 122 (0,0))
 own:W.ownsRow B 3 1 (Y sa sn sc) todo.length (xP todo.reverse)
 ne:(Value.slice sa sn sc).ownBlock≠some (B+1)
 mp:xW π 3 W mb (atM met 0)
 gr:yc W GG g v
 wbk:W.heap[wb]? =some (.cells #[.int I (root:Int),v,.map (some mb)] 251 (0,0))
 bxk:W.heap[bx]? =some (.cells #[.pointer (some ⟨wb,0,O⟩)] 181 (0,0))
 sz:B+2<=W.heap.size
 j:J met.length F W
 fr:∀k,F k->k≠mb/\k≠wb/\k≠bx/\¬GG k/\k≠B+1/\(Value.slice sa sn sc).ownBlock≠some k
def A6(c:List Nat)(t:Nat)(a:Array Value)(b:NS)(_:World):Prop:=(∃i:Nat,c[t]? =W i/\a=#[V I (i:Int)])/\b=xO
theorem oQ(y:Nat)(g:List Tp.Nd)(v:Value)(E:NS)(L:List Nat)(C d G:Nat)(w:World)(hl:y < g.length)(ej:∀x∈g,yx x/\∀i∈x.kids,i < g.length)(a6:Tp.walk g 20000 [y] []=W L)(be:yc w E g v)(da:∀k,E k->k < w.heap.size/\k≠d)(S:w.heap[C]? =W (.cells #[.int I (y:Int),v,.map (W d)] 251 (0,0)))(X:w.heap[G]? =W (.cells #[.pointer (W ⟨C,0,O⟩)] 181 (0,0)))(a1:xW π 3 w d []):
 yQ π 165 #[.pointer (W ⟨G,0,O⟩)] 3 L.length (A6 L) (·=d) (λk=>k=C\/k=G\/E k) True (λ_ _=>True) (λo=>xW π 3 o d (atM L 0)) w:=by
 intro l J hM b9 o a9 gZ hF0 c2 f6 bb eM dl;have fc:∀k,E k->k≠d:=λk b=>(da k b).2;have hu:C≠d:=λe=>by obtain⟨bq,bm,b,_⟩:=a1.1;rw[e,b]at S;cases S
 have hA:G≠d:=λe=>by obtain⟨bq,bm,b,_⟩:=a1.1;rw[e,b]at X;cases X
 have ep:∀k,E k->k < o.heap.size:=λk b=>by have:=(da k b).1;have:=a9.size;omega
 have es:=a1.lt;have fR:=lt_of_heap S;have e0:=lt_of_heap X
 replace S:=(a9.block _ fR).trans S
 replace X:=(a9.block _ e0).trans X
 replace a1:=a1.below a9 es
 replace be:=be.below a9
 obtain⟨base,er⟩:∃e4,w.heap.size=e4:=⟨_,rfl⟩;rw[er]at c2 f6 es fR e0;have iv:base<=o.heap.size:=by omega
 have f3:∀k,b9 k->k < o.heap.size/\k≠d/\k≠C/\k≠G/\¬E k:=λk b=>⟨(bb 0 b9 o dl).2 trivial k b,(hF0 k b).1,λe=>(hF0 k b).2 (.inl e),λe=>(hF0 k b).2 (.inr (.inl e)),λe=>(hF0 k b).2 (.inr (.inr e))⟩;obtain⟨a,bm,rfl,e6⟩:=be.form;obtain⟨B,c4⟩:∃B,o.heap.size=B:=⟨_,rfl⟩;obtain⟨cl,hq,e7,gQ,hi,gJ⟩:=zx6 c2 eM bb f3 ej a6;obtain⟨gl,c6⟩:=zx2 fc ep;have g8:RowKit.Hid (g.length<=9223372036854775807):=zD e6;obtain⟨ac,dv⟩:∃ac,g.length=ac:=⟨_,rfl⟩;rw[dv]at hl be S;have h9:=zF X 0 rfl;obtain⟨hR,hY,hK,_⟩:=bv S;have a4:Far xO o ((o.alloc (.cells #[.int I (y:Int)] 3)).alloc (.cells #[Y (W ⟨B,0,O⟩) 1 1] 122)):=((ξ _ o).alloc _).alloc _;have hc:((o.alloc (.cells #[.int I (y:Int)] 3)).alloc (.cells #[Y (W ⟨B,0,O⟩) 1 1] 122)).heap[B]? =W (.cells #[.int I (y:Int)] 3 (0,0)):=by rw[<-c4];exact aa _ (af o _)
 have hx:((o.alloc (.cells #[.int I (y:Int)] 3)).alloc (.cells #[Y (W ⟨B,0,O⟩) 1 1] 122)).heap[B+1]? =W (.cells #[Y (W ⟨B,0,O⟩) 1 1] 122 (0,0)):=ah _ _ _ (by simp[c4]);have hG:((o.alloc (.cells #[.int I (y:Int)] 3)).alloc (.cells #[Y (W ⟨B,0,O⟩) 1 1] 122)).ownsRow B 3 1 (Y (W ⟨B,0,O⟩) 1 1) 1 (xP [y].reverse):=⟨rfl,.inr ⟨B,1,_,rfl,η _,hc,η _,by decide,rfl,rfl⟩⟩;have g5:=be.far a4 (λ_ _ _ e=>e);have c1:=a4.heap S id;have gj:=a4.heap X id;have hC:=a1.far a4 id;have g3:=cl.out 0 b9 _ _ dl (a4.mono (λ_ _ e=>e.elim));clear c2 f6 eM f3 hF0 a9 gZ er bb e6 ej a6 fc ep be S X a1 dl a4 da
 go_enter func165,ntmps165
 go_wp2_with fail
 go_step3
 go_wp2_with fail
 go_step3
 go_wp2_with fail
 have g4:B+2<=((o.alloc (.cells #[.int I (y:Int)] 3)).alloc (.cells #[Y (W ⟨B,0,O⟩) 1 1] 122)).heap.size:=by simp[c4]
 go_loopg [] 20000 (λgg wr=>∃(c3 c:List Nat) (H:NS) (el:Option Addr) (f7 M cm:Nat),cm=gg/\WkR g E L y C d G B ac (Y a ac bm) J cm c3 c H el f7 M wr)
 case atStart=>
  exact⟨[y],[],b9,_,_,_,20000,rfl,gJ.out,List.nodup_nil,by simp,λi ht=>by simp at ht;omega,hx,hG,by simp[Value.ownBlock],hC,g5,c1,gj,g4,g3,λk b=>by
   obtain⟨F,P,an,a2,av⟩:=gQ.out k b;exact⟨P,an,a2,av,by omega,by simp[Value.ownBlock];omega⟩⟩
 case round=>
  obtain⟨c3,c,H,el,f7,M,gg,h5,z⟩:=hrel;have ha:=cz z.own;subst ha;have dm:=zF z.td 0 rfl;cases c3 with
  |nil=>
   have u:=zD z;clear z
   go_wp2_with fail
   rw[Exit.noGoto_normal]
   go_end0
   have N:=u.out.wk;cases gg with
   |zero=>simp[Tp.walk]at N
   |succ f=>
    simp[Tp.walk]at N
    subst N;exact⟨⟨_,rfl⟩,.inl ⟨H,u.out.j,u.out.mp⟩⟩
  |cons i r=>
   have N:=z.wk;cases gg with
   |zero=>simp[Tp.walk]at N
   |succ f=>
   have hf:=z.inb i (by simp);obtain⟨x,b6⟩:∃x,g[i]? =W x:=⟨_,zE (by rw[dv];exact hf)⟩;have dA:g.getD i ⟨0,Tp.Sc.null,[],[]⟩=x:=by rw[zY,b6];rfl
   obtain⟨ge,cS⟩:=hi.out x (zL b6);rw[dv]at cS;simp only[Tp.walk]at N;rw[dA]at N;obtain⟨A,cap,e,iw,iC⟩:=aA (n:=r.length) z.own;injection e with b8 bR e3;clear bR;subst b8 e3;have ba:wr.cell? ⟨A,r.length,O⟩=W (.int I (i:Int)):=(bK z.own).cell (by
    have e:xP (i::r).reverse=xP r.reverse++[.int I (i:Int)]:=by simp[xP]
    rw[e,zV (by simp[xP])];simp[xP])
   have g2:=z.small;simp only[zO]at g2;have ck:=mo (m:=r.length) z.own (by simp);have fY:(xP (i::r).reverse).take r.length=xP r.reverse:=by
    have e:xP (i::r).reverse=xP r.reverse++[.int I (i:Int)]:=by simp[xP]
    rw[e,List.take_left' (by simp[xP])]
   rw[fY]at ck;have gO:(((i::r).length:Nat):Int)=((r.length+1:Nat):Int):=rfl;obtain⟨t,cc⟩:∃t,r.length=t:=⟨_,rfl⟩;have c1:IntKind.i64.wrap (((t+1:Nat):Int) - 1)=(t:Int):=by rw[show ((t+1:Nat):Int) - 1=(t:Int)by omega];exact zU _ (by omega)
   rw[zO,cc]at dm;rw[cc]at ba ck;have ie:(0:Int)<=(t:Int):=by omega
   have g7:(t:Int) < ((t+1:Nat):Int):=by omega
   obtain⟨bD,hn⟩:∃bD,t+1=bD:=⟨_,rfl⟩;rw[hn]at dm c1 g7;have hU:(0:Int) < (bD:Int):=by omega
   have hZ:0 < bD:=by omega
   have h8:(bD:Int)<=(M:Int):=by have:=(ja z.own).1;simp at this;omega
   have it:(t:Int)<=(M:Int):=by omega
   have cm:=ag z.td 0;obtain⟨u,f4,bs,hJ,dc,hh⟩:=zx6 z ck N b6 ge cS;clear z ck N b6 ge cS fY dA gO
   go_upto_region 5 with (fail)
   have ab:Far (·=B+1) wr (wr.setCell ⟨B+1,0,O⟩ (Y (W ⟨A,0,O⟩) t M)):=Far.setCell (D:=(·=B+1)) (ξ _ _) (p:=⟨B+1,0,O⟩) (λ_=>rfl) _;have bk:=ai u.out.td 0 (Y (W ⟨A,0,O⟩) t M);have ds:A≠B+1:=λe=>u.out.ne (by simp[Value.ownBlock,e]);have b5:=am f4.out ab (λk e b=>by injection e with e;exact ds (e.trans b));have fG:d≠B+1:=by omega
   have T:=u.out.mp.far ab fG;have cv:=u.out.gr.far ab (λk q _ e=>by have:=c6.out k q;omega);have bw:=ab.heap u.out.wbk (by omega);have b3:=ab.heap u.out.bxk (by omega);have cb:=cl.out _ H _ _ u.out.j (ab.mono (λk _ e=>⟨λb=>(u.out.fr k b).2.2.2.2.1 e,.inr (by omega)⟩));have ca:B+2<=(wr.setCell ⟨B+1,0,O⟩ (Y (W ⟨A,0,O⟩) t M)).heap.size:=Nat.le_trans u.out.sz ab.size;have b2:=u.out.fr;have co:=u.out.nd;have cf:=u.out.inb;simp only[Array.setIfInBounds,zA,zB]at bk;clear u f4 ab dm ba cm;generalize (wr.setCell ⟨B+1,0,O⟩ (Y (W ⟨A,0,O⟩) t M))=a0 at *;obtain⟨dC,b8,bR,_⟩:=bv bw;have cT:=zF b3 0 rfl;have db:=bW i (by have:=g8.out;omega);by_cases a5:i∈c
   ·rw[if_pos a5]at bs
    have ch:=T.look_in bh underlying249 (gC _) (.int I (i:Int)) db true _ (sK c 0 i a5) (λp b4 hy=>mW c 0 i co p b4 hy);simp only[if_true]at ch;have b1:WkR g E L y C d G B ac (Y a ac bm) J f r c H (W ⟨A,0,O⟩) t M a0:=⟨bs.out,co,by omega,λk q=>cf k (by simp[q]),bk,by rw[cc];exact b5,by simp[Value.ownBlock,ds],T,cv,bw,b3,ca,cb,λk b=>by
     obtain⟨F,P,an,a2,av,ct⟩:=b2 k b;exact⟨F,P,an,a2,av,ct⟩⟩
    have dg:=zD b1;clear bk b5 T cv bw b3 ca cb b2 co cf b1
    go_wp2_with fail
    go_roundg f
    case rel=>exact⟨r,c,H,_,_,_,f,rfl,dg.out⟩
    case measure=>omega
   ·rw[if_neg a5]at bs
    have ch:=T.look_out bh underlying249 (gC _) (.int I (i:Int)) db true (λp b4 e=>by
     obtain⟨k,q,ba⟩:=jv c 0 p b4;rw[ba]at e;simp at e
     exact a5 (by
      have:k=i:=by omega
      rw[<-this];exact q))
    simp only[if_true]at ch
    go_upto_region 7 with (fail)
    have gd:=(show xW π 3 a0.drew d (atM c 0)from T).put bh underlying249 (.int I (i:Int)) (.int I (c.length:Int)) db (λp b4 e=>by
     obtain⟨k,q,ba⟩:=jv c 0 p b4;rw[ba]at e;simp at e
     exact a5 (by
      have:k=i:=by omega
      rw[<-this];exact q))
    have f2:atM c 0++[(Value.int I (i:Int),Value.int I (c.length:Int))]=atM (c++[i]) 0:=by rw[nS,Nat.zero_add]
    rw[f2]at gd;obtain⟨b0,hE,fr,fX⟩:=gd;obtain⟨⟨bq,ex,f8,fS⟩,_⟩:=id T;have hv:bq.size=c.length:=by
     have F:=congrArg List.length fS;rw[List.length_map,Array.length_toList]at F;rw[F];have:∀(l:List Nat) (k:Nat),(atM l k).length=l.length:=by
      intro l;induction l with
      |nil=>intro k;rfl
      |cons j r ih=>intro k;rw[atM,zO,ih,zO]
     exact this _ _
    have ga:Far (·=d) a0 b0:=((ξ _ a0).drew).trans fX;obtain⟨gx,fv,ad⟩:=zx3 T fr ga;clear ch f2 fS fX ga T fr;refine wp_region_noPanic ?_;refine ar (λo=>o.cell? ⟨G,0,O⟩=W (.pointer (W ⟨C,0,O⟩))/\o.cell? ⟨C,2,O⟩=W (.map (W d))/\o.heap[d]? =W (.map bq ex)) [10] (by kernel_rfl) ?_;refine aJ (by kernel_rfl) (λ_ _ _ _ b=>b) ⟨cT,bR,f8⟩ 1 [0,1,2,3,4,5,6,7,8,9] _ _ (by kernel_rfl) ?_;iterate 9 (refine Ei ?_;(try go_frame))
    (refine ax (v:=?_) ?_ ?_;rotate_left;·(intro hg gc;(try dsimp only at gc);(try obtain⟨h1,hV,gk⟩:=gc);have i0:=wI hg d bq ex gk;go_simp;try with_reducible rfl);(try go_frame))
    refine xT.done ?_;try dsimp only
    have hH:Far xO a0 a0.drew:=(ξ _ a0).drew;have ef:=ad.out.heap bk fG.symm;have fl:=am b5 ad.out (λk e b=>by injection e with e;subst e;dsimp only at b;omega);have fz:=cv.far ad.out (λk q _ e=>gl.out k q e);have d1:=ad.out.heap bw hu;have fu:=ad.out.heap b3 hA;have eg:=cl.out _ H _ _ cb (ad.out.mono (λk _ e=>⟨λb=>(b2 k b).1 e,.inl e⟩));have hX:=Nat.le_trans ca ad.out.size;obtain⟨hI,fw,gf,e8,en,e9⟩:=zx6 ef fl fz d1 fu eg;have h6:A≠d:=by omega
    clear bk b5 gx cv bw b3 ca cb ad ef fl fz d1 fu eg hH cT dC b8 bR f8;refine aq [10] ?_;refine aj rfl (λK bb=>?_) xQ.nil
    go_simp
    refine bb.out _ _ (λb=>absurd (by simp) b) ?_;clear bb K hE
    (try go_frame)
    refine aP (by kernel_rfl) (NoPanic.normal ?_) _
    go_upto_region 8 with (fail)
    refine(wpIn_wide (n:=4)).1 ?_;obtain⟨s,a6⟩:=iJ g f _ _ L bs.out;have dp:L[c.length]? =W i:=by rw[a6];simp
    have hz:c.length < L.length:=by rw[a6];simp
    have h0:∀k,H k->k < b0.heap.size:=λk b=>(e7.out _ H b0 e9.out).2 trivial k b;obtain⟨iB,h4,assign,body,hd,d4⟩:=hq.out c.length hz H xO #[.int I (i:Int)] b0 e9.out ⟨⟨i,dp,rfl⟩,rfl⟩ (λk b=>b.elim);obtain⟨f5,ao,hk,h2⟩:=zx4 d4 b2 cf dp;have g6:(c++[i]).Nodup:=by
     rw[List.nodup_append];exact⟨co,by simp,λa hw e4 d3 e=>by simp at d3;subst d3;subst e;exact a5 hw⟩
    clear d4 a6 dp b2 cf hv
    gi_wp2
    refine(f5.out).mono ?_;rintro e bx ⟨a3,⟨R,c0⟩,(⟨rfl,c5⟩|⟨rfl,fL⟩)⟩
    ·have fT:=R.heap hI.out (λb=>(ao.out _ b).2.2.2.2.1 rfl)
     have e1:=am fw.out R (λk e b=>by
      have:=(ao.out k b).2.2.2.2.2;simp[Value.ownBlock]at this e
      exact this e)
     have ei:=fv.out.far R (λb=>(ao.out _ b).1 rfl);have c9:=gf.out.far R (λk q _ b=>(ao.out k b).2.2.2.1 q);have dn:=R.heap e8.out (λb=>(ao.out _ b).2.1 rfl);have dr:=R.heap en.out (λb=>(ao.out _ b).2.2.1 rfl);have h3:=R.size;have hN:A < b0.heap.size:=by
      rcases fw.out.2 with ⟨b,_⟩|⟨hP,hW,hQ,b,_,hb,_⟩
      ·cases b
      ·injection b with b
       injection b with b;injection b with b;subst b;exact lt_of_heap hb
     have hT:=fv.out.lt;have g0:∀k,a3 k->k < bx.heap.size:=λk b=>(e7.out _ a3 bx c5).2 trivial k b;have f1:∀k,a3 k->k≠d/\k≠C/\k≠G/\¬E k/\k≠B+1/\k≠A:=by
      intro k b;rcases c0 k b with b|b|b
      ·obtain⟨F,P,an,a2,av,ct⟩:=ao.out k b
       exact⟨F,P,an,a2,av,λe=>ct (by simp[Value.ownBlock,e])⟩
      ·exact b.elim
      ·exact⟨by omega,by have:=lt_of_heap e8.out;omega,by have:=lt_of_heap en.out;omega,λq=>by have:=c6.out k q;omega,by omega,by omega⟩
     obtain⟨kv,hj,d6⟩:=c9.at hJ.out;have f0:=bQ (y:Int) x _ kv hj _ i E bx d6 dc.out;obtain⟨dC,b8,bR,_⟩:=bv dn;have cT:=zF dr 0 rfl;obtain⟨d0,hs,he,hm,gr,gM⟩:=zx6 f0 fT e1 ei c9 dn;obtain⟨hp,gR,d5⟩:=zx3 dr c5 f1;clear fT e1 ei c9 dn dr c5 f1 f0 R c0 hd f5 d6
     gi_wp2
     go_wp2_with fail
     refine d0.out.mono ?_;rintro e hr ⟨⟨hF,rfl,di⟩,ek⟩;have bn:=Far.of_below ek xO;have fE:=bn.heap hs.out id;have dW:=am he.out bn (λ_ _ b=>b);have hS:=bn.size;have gb:=j4 B (B+1) r.reverse (Tp.kidsOf x) (W ⟨A,0,O⟩) t M hF (New bx) hr (by have F:=bI x;have P:=dc.out.2.2;rw[List.length_reverse];omega) (by omega) fE (by rw[List.length_reverse,cc];exact dW) (by simp[Value.ownBlock,ds]) di (λk (q:bx.heap.size<=k) b=>by
      rcases b with rfl|b
      ·omega
      ·simp[Value.ownBlock]at b;omega)
     obtain⟨hL,iY,rfl,_⟩:=di.form;obtain⟨fn,fs⟩:=zx2 gb bn;clear di ek bn fE dW gb d0
     go_wp2_with fail
     refine fn.out.mono ?_;rintro e hD ⟨⟨h7,rfl⟩,⟨g1,gN,hB,dJ,dj,e2,eq⟩,d2⟩;have al:=(fs.out.mono (D':=λk=>k=B+1\/k=A) (λ_ _ e=>e.elim)).trans (d2.mono (D':=λk=>k=B+1\/k=A) (λk _ e=>by
      rcases e with b|b
      ·exact .inl b
      ·simp[Value.ownBlock]at b;exact .inr b.symm))
     have f9:r.reverse++(Tp.kidsOf x).reverse=(Tp.kidsOf x++r).reverse:=by simp
     have e5:r.reverse.length+(Tp.kidsOf x).length=(Tp.kidsOf x++r).length:=by simp;omega
     rw[f9,e5]at dj;have b1:WkR g E L y C d G B ac (Y a ac bm) J f (Tp.kidsOf x++r) (c++[i]) a3 g1 gN hB hD:=⟨bs.out,g6,by have F:=bI x;have P:=dc.out.2.2;rw[zP];omega,λk q=>by
      rcases List.mem_append.1 q with b|b
      ·exact hh.out k (bj x k b)
      ·exact hk.out k (by simp[b]),dJ,dj,e2,hm.out.far al (by omega),gr.out.far al (λk q _ e=>by have:=c6.out k q;omega),al.heap gM.out (by omega),al.heap hp.out (by omega),Nat.le_trans (by omega) al.size,by
       rw[zP,List.length_singleton];exact cl.out _ a3 _ _ gR.out (al.mono (λk _ e=>⟨λb=>by have:=d5.out k b;omega,.inr (by omega)⟩)),λk b=>by
       obtain⟨F,P,an,a2,av,ct⟩:=d5.out k b;refine⟨F,P,an,a2,av,λe=>?_⟩;rcases eq k e with ft|ft
       ·simp[Value.ownBlock]at ft;omega
       ·have:=g0 k b;omega⟩
     have dg:=zD b1;clear dJ dj e2 eq d2 al f9 e5 b1 fn fs
     go_wp2_with fail
     go_roundg f
     case rel=>exact⟨_,_,a3,_,_,_,f,rfl,dg.out⟩
     case measure=>omega
    ·have ho:=zD fL
     clear fL R c0
     gi_wp2
     go_wp2_with fail
     try rw[Exit.noGoto_normal]
     go_end0
     exact⟨⟨_,rfl⟩,.inr ⟨a3,ho.out⟩⟩
end
section
attribute [local go_sem] ak
attribute [local go_sem] Oper.semAt_some
theorem mi(b:Int)(v:Value)(d:∃a n c,v=Y a n c)(w:World):Calls π 84 #[γ #[V I b,v]] w λe w'=>e=ρ (Z (W ⟨w.heap.size+2,0,O⟩))/\w'=((w.alloc (J #[V I b,v] 54)).alloc (.map #[] 0)).alloc (J #[V I b,v,.map (W (w.heap.size+1))] 251):=by
 obtain⟨a,n,c,rfl⟩:=d;have f:=@run_makeMap π
 go_enter func84,ntmps84
 go_wp2
 go_ret
 exact⟨rfl,rfl⟩
structure WlI(w:World)(q mb:Nat)(ws:List Nat)(t:Nat)(F:NS)(W:World):Prop where
 le:t<=ws.length
 row:∃(sa:Option Addr) (sn sc:Nat),(∀k,F k↔k=q\/(Value.slice sa sn sc).ownBlock=some k)/\W.heap[q]? =some (J #[Y sa sn sc] 122 (0,0))/\W.ownsRow (q+1) 3 1 (Y sa sn sc) t (xP (ws.take t))
 far:Far (·=mb) w W
theorem pI(T:Nat)(g:List Tp.Nd)(v:Value)(ab:NS)(o:List Nat)(d y:Nat)(w:World)(c4:T < g.length)(be:∀x∈g,yx x/\∀i∈x.kids,i < g.length)(bq:Tp.walk g 20000 [T] []=W o)(d0:o.length<=1000000)(b8:yc w ab g v)(X:∀k,ab k->k < w.heap.size/\k≠y)(a3:w.heap[d]? =W (J #[.int I (T:Int),v,.map (W y)] 251 (0,0)))(ao:xW π 3 w y []):
 Calls π 85 #[.pointer (W ⟨d,0,O⟩)] w λe w'=>(∃bs,e=ρ bs/\Row w' (New w) o.length bs (xP o))/\xW π 3 w' y (atM o 0)/\Far (·=y) w w':=by
 obtain⟨c3,b0,ct,df,c5⟩:=info_parts gI;obtain⟨q,z⟩:∃q,w.heap.size=q:=⟨_,rfl⟩;have c0:=ao.lt;have dg:=lt_of_heap a3;have b9:=oR d;have F:Far xO w ((w.alloc (J #[Y O 0 0] 122)).alloc (J #[.pointer (W ⟨d,0,O⟩)] 181)):=((ξ _ w).alloc _).alloc _;have b6:((w.alloc (J #[Y O 0 0] 122)).alloc (J #[.pointer (W ⟨d,0,O⟩)] 181)).heap[q]? =W (J #[Y O 0 0] 122 (0,0)):=by rw[<-z];exact aa _ (af w _)
 have f:((w.alloc (J #[Y O 0 0] 122)).alloc (J #[.pointer (W ⟨d,0,O⟩)] 181)).heap[q+1]? =W (J #[.pointer (W ⟨d,0,O⟩)] 181 (0,0)):=ah _ _ _ (by simp[z]);have bw:((w.alloc (J #[Y O 0 0] 122)).alloc (J #[.pointer (W ⟨d,0,O⟩)] 181)).heap.size=q+2:=by simp[z]
 have bm:=oQ T g v ab o d y (q+1) _ c4 be bq (b8.far F (λ_ _ _ e=>e)) (λk c=>⟨zK (X k c).1 F.size,(X k c).2⟩) (F.heap a3 id) f (ao.far F id);have bk:∀k,ab k->k < q:=λk c=>z ▸ (X k c).1;obtain⟨bb,cT⟩:=zx2 b9 bm;have dm:RowKit.Hid (WlI w q y o 0 (λk=>k=q\/(Value.slice O 0 0).ownBlock=W k) ((w.alloc (J #[Y O 0 0] 122)).alloc (J #[.pointer (W ⟨d,0,O⟩)] 181))):=zD ⟨z_ _,⟨O,0,0,λ_=>Iff.rfl,b6,World.ownsRow_nil _ _ _ _⟩,F.mono (λ_ _ e=>e.elim)⟩;obtain⟨u,H,ba⟩:=zx3 bw z bk;have a9:(w.alloc (J #[Y O 0 0] 122)).heap.size=q+1:=by simp[z]
 clear b9 bm b8 a3 ao be bq X F b6 f bw bk;refine callsIn_wide.1 (callsIn_of_wp_marks (n:=5) func85 rfl trivial (wpIn_wide.2 ?_));simp only[ntmps85,List.size_toArray,zO,List.length_nil,Nat.reduceAdd,Nat.reduceSub,Array.replicate_succ,Array.replicate_zero,List.push_toArray,List.append_toArray,List.nil_append,List.cons_append]
 go_wp2_with fail
 refine(bb.out _).mono ?_;rintro e dJ ⟨rfl,rfl⟩;rw[a9];rw[z]at c0 dg;generalize ((w.alloc (J #[Y O 0 0] 122)).alloc (J #[.pointer (W ⟨d,0,O⟩)] 181))=d1 at *;clear z a9 bb
 go_wp2_with fail
 refine wpIn_wide.1 (aC (n:=5) (gf:=165) (lb:=#[.pointer (W ⟨q+1,0,O⟩)]) rfl (λargs wx=>si args wx)
  cT.out (λk e=>by have:=u.out;omega) (λk e=>by have:=u.out;rcases e with rfl|rfl|e;omega;omega;have:=ba.out k e;omega) (λt v cv R a=>by obtain⟨⟨i,_,rfl⟩,_⟩:=a;rfl)
  (WlI w q y o) (λ_ _ _=>False) (λk=>k=q\/(Value.slice O 0 0).ownBlock=W k) (λk a=>?hF0) dm.out ?hI (λ_ _ _ _ a _=>a) (λ_ _ _ _=>trivial) ?hFin ?round ?done (λ_ _ _ a=>a.elim))
 case hF0=>
  have c:k=q:=by
   rcases a with a|a
   ·exact a
   ·simp[Value.ownBlock]at a
  subst c;have:=u.out;exact⟨by omega,λe=>by rcases e with e|e|e;omega;omega;have:=ba.out _ e;omega,by omega,by omega,λ_=>by omega⟩
 case hI=>
  rintro t al R b3 ⟨av,⟨b,l,m,r,f,s⟩,A⟩ M;refine⟨av,⟨b,l,m,r,M.heap f (λe=>e.1 ((r q).2 (.inl rfl))),am s M (λk e a=>a.1 ((r k).2 (.inr e)))⟩,A.step M (λi b0 e=>?_)⟩;have:=u.out;have:=H.out;rcases e.2 with a|a
  ·exact a
  ·omega
 case hFin=>
  intro R b3 a M;exact a.far M (λe=>by have:=u.out;omega)
 case round=>
  rintro t al cv c9 R K cb co ⟨av,⟨b,l,m,r,f,s⟩,A⟩ ⟨⟨i,a6,rfl⟩,rfl⟩ ds P G;have b2:=u.out;rw[b2]at co P
  gi_wp2
  refine G _ _ (ξ _ _) ?_;intro E C _ _;rw[b2]at C;have dc:¬q=q+2+1:=by omega
  have ac:=C.heap f dc;have N:=am s C (λk e a=>by have:=(P k ((r k).2 (.inr e))).2.1;omega);have bD:=A.step C (λk c e=>by have:=H.out;omega);have dr:=C.size;have db:=zF ac 0 rfl;have b5:xP (o.take (t+1))=xP (o.take t)++[.int I (i:Int)]:=by rw[zG,a6];simp[xP]
  have b4:∀k,(Value.slice b l m).ownBlock=W k->q+1<=k/\k < E.heap.size:=λk e=>N.lt k e;obtain⟨cf,a5,a1,di,b1,L⟩:=zx6 ac N bD b5 b4 r;have cS:=lt_of_heap ac;clear f s A ac N bD b5 C G P a6 b4 r
  gi_wp2_with (gi_at_builtin;refine wpListIn_append_own_at _ rfl (.tmp 8) (.tmp 10) 122 rfl (q+1) 3 c3 _ 1 8 underlying122 b0 ct df c5 rfl (by decide) (Y b l m) t _ rfl (a5.out.alloc _) ⟨E.heap.size,0,O⟩ 1 1 [.int I (i:Int)] rfl rfl (λj c9 ck=>by rw[gK];exact(ae (af E _) j).trans (by simpa using ck)) (by simp[Value.oneCell']) (by unfold maxLen;omega) (by omega) (by simp;omega) ?_;intro dW w5 a4 ca _ bR;obtain⟨gg,cap,rfl,dA,_⟩:=aA a4;have an:Far (λk=>(Value.slice b l m).ownBlock=W k) E w5:=(((ξ (λk=>(Value.slice b l m).ownBlock=W k) E).alloc _).grown ca (λk e _=>e));have S:=an.heap cf.out (λe=>by have:=(b1.out q e).1;omega);have dp:w5.cell? ⟨q,0,O⟩=W (Y b l m):=ae S 0;have dv:w5.frozen? ⟨q,0,O⟩=false:=ag S 0;have c2:=zD S;have c6:=zD an;have cl:=zD a4;have ch:=zD bR;clear S an a4 ca bR)
  have bn:Far (·=q) w5 (w5.setCell ⟨q,0,O⟩ (Y (W ⟨gg,0,O⟩) (t+1) cap)):=Far.setCell (D:=(·=q)) (ξ _ _) (p:=⟨q,0,O⟩) (λ_=>rfl) _;have cc:gg≠q:=by omega
  have a0:=am cl.out bn (λk e a=>by injection e with e;exact cc (e.trans a));rw[<-di.out]at a0;have a2:=(c6.out.mono (D':=al) (λk _ e=>(L.out k).2 (.inr e))).step bn (λk _ e=>(L.out k).2 (.inl e));have dn:gg < w5.heap.size:=(a0.lt gg rfl).2 |> λa=>by simpa [World.setCell]using a
  have dl:(Value.slice b l m).ownBlock=W gg\/E.heap.size<=gg:=by
   rcases ch.out with a|a
   ·left;rw[<-a];rfl
   ·right
    simp[Value.ownBlock]at a
    omega
  refine⟨λk=>k=q\/(Value.slice (W ⟨gg,0,O⟩) (t+1) cap).ownBlock=W k,⟨cb,⟨_,_,_,λ_=>Iff.rfl,ai c2.out 0 _,a0⟩,a1.out.step a2 (λk c e=>by
   have:=H.out;rcases (L.out k).1 e with a|a
   ·omega
   ·have:=(b1.out k a).1;omega)⟩,a2,λk a=>?_⟩
  rcases a with rfl|a
  ·exact⟨.inl ((L.out k).2 (.inl rfl)),λ_=>zK cS a2.size⟩
  ·simp[Value.ownBlock]at a
   subst a;refine⟨?_,λ_=>by simpa [World.setCell]using dn⟩;rcases dl with a|a
   ·exact .inl ((L.out gg).2 (.inr a))
   ·exact .inr (.inr (by omega))
 case done=>
  rintro al R ⟨av,⟨b,l,m,r,f,s⟩,A⟩ bx G P;rw[u.out]at G ⊢;rw[List.take_length]at s;have db:=zF f 0 rfl;have da:=(az s).mono (G':=New w) (λk (c:q+1<=k) _=>by have:=H.out;show w.heap.size<=k;omega);have cm:∀k,(Value.slice b l m).ownBlock=W k->k≠q+2:=λk e=>by have f:=P k ((r k).2 (.inr e));have:=u.out;omega
  obtain⟨a5,a1,c1,dj⟩:=zx4 s A G bx;clear f s A G bx da
  go_wp2_with fail
  refine au (q:=q+2) rfl c1.out ?_;intro b3 ad;have N:=am a5.out ad (λk e a=>cm k e a);have dC:=H.out;refine⟨Y b l m,by simp[results,results85,go_sem],⟨_,rfl,(az N).mono (G':=New w) (λk (c:q+1<=k) _=>by show w.heap.size<=k;omega)⟩,dj.out.far ad (by omega),a1.out.step ad (λk c e=>by omega)⟩
end
section
attribute [local go_sem] ak
theorem vf{w:World}{g:Nat}{a:List Value}(c:PR w g a){i:Nat}(d:i < a.length):∃b,w.cell? ⟨g,i,O⟩=W b:=⟨_,c.cell (zE d)⟩
theorem mw(b:List Nat)(l:Value)(ab:NS)(w:World)(a5:b.length<=1000000)(C:Row w ab b.length l (xP b)):
 ∃f F,(Instr.makeSlice 122 (V I (b.length:Int)) (V I (b.length:Int))).run π w=.ok (Y (W ⟨w.heap.size,0,O⟩) b.length b.length) f/\
  (Builtin.copy_ #[122,122] 3 #[Y (W ⟨w.heap.size,0,O⟩) b.length b.length,l]).run π f=.ok (V I (b.length:Int)) F/\PR F w.heap.size (xP b)/\Below w.heap.size w F:=by
 obtain⟨av,E,X,L,ad⟩:=info_parts gI;obtain⟨f,H,n,ao⟩:=run_make_full (P:=π) w w.heap.size 122 3 av _ 1 underlying122 E X L I I b.length (by rw[ad];omega) (by unfold maxLen;omega) (η _);have s:Below w.heap.size w f:=(ζ _ w).grown ao (η _) (λ_ e=>by cases e);generalize (madeCells (Value.int I 0).cells (b.length * 1)).toList=Z at n;have y:=bK n;obtain⟨a,R,rfl,_⟩:=C.form;have M:(prog.info? 3).map (·.size)=W 1:=by rw[E];simp[L]
 have v:=n.1;rw[Nat.mul_one]at v;rcases Nat.eq_zero_or_pos b.length with q|q
 ·refine⟨f,f,H,?_,?_,s⟩
  ·have:=run_copy_none (P:=π) f 122 122 3 3 (W ⟨w.heap.size,0,O⟩) a b.length b.length b.length R underlying122 M (by simp[q])
   rw[this,q];rfl
  ·rw[List.length_eq_zero_iff.1 q]
   obtain⟨al,T,G,_⟩:=y;exact⟨al,T,G,λi d t=>by simp[xP]at t⟩
 ·obtain⟨a2,a1⟩:∃x,b[0]? =W x:=⟨_,zE q⟩
  obtain⟨g,o,cap,e,_,a4,_⟩:=(C.below s).nat a1;injection e with e1 e2 e3;subst e1;refine⟨f,f.setCells w.heap.size 0 (xP b),H,?_,?_,?_⟩
  ·rw[run_copy_cells (P:=π) f 122 122 3 3 w.heap.size 0 b.length b.length ⟨g,o,O⟩ b.length R (xP b) underlying122 M (by simp[xP]) (λj d u=>by
    have z:=(zM.1 u).1;rw[xP,List.length_map]at z;obtain⟨a6,ba,a3,ac,_,_,G⟩:=(C.below s).nat (i:=j) (x:=b[j]) (zE z);injection ac with e1 e2 e3;injection e1 with e1;injection e1 with e1 e4;subst e1 e4;have an:(⟨g,o,O⟩:Addr).add j=⟨g,o+j,O⟩:=by unfold Addr.add;split<;>simp_all
    rw[an,G,<-u];simp[xP,z]) (λj u=>by
    rw[Nat.zero_add];obtain⟨d,D⟩:=vf y (i:=j) (by rw[v];simpa [xP]using u);rw[D];rfl) (λj u=>y.frozen _) (by intro d D;obtain⟨i,_,rfl⟩:=List.mem_map.1 D;rfl)]
   simp[goInt,xP]
  ·have A:∀(m:List Value) (o:Nat) (k:World) (c:List Value),PR k w.heap.size c->o+m.length<=c.length->PR (k.setCells w.heap.size o m) w.heap.size (c.take o++m++c.drop (o+m.length)):=by
    intro m;induction m with
    |nil=>intro o k c t _;simpa [World.setCells]using t
    |cons d r ih=>
     intro o k c t N;have n:=ih (o+1) _ _ (aQ t o d) (by simp at N ⊢;omega);unfold World.setCells;have a0:o < c.length:=by simp at N;omega
     have e:(c.set o d).take (o+1)++r++(c.set o d).drop (o+1+r.length)=c.take o++(d::r)++c.drop (o+(d::r).length):=by
      rw[List.take_set,List.drop_set_of_lt (by omega),zO,show o+(r.length+1)=o+1+r.length by omega];have:(c.take (o+1)).set o d=c.take o++[d]:=by
       have S:(c.take o).length=o:=by rw[List.length_take];omega
       rw[zG,zE a0];show (c.take o++[c[o]]).set o d=_;rw[List.set_append_right _ _ (by omega),S,Nat.sub_self];rfl
      rw[this];simp
     rw[<-e];exact n
   have:=A (xP b) 0 f _ y (by rw[v];simp[xP]);simp only[List.take_zero,List.nil_append,Nat.zero_add]at this;rw[List.drop_of_length_le (by rw[v];simp[xP]),List.append_nil]at this;exact this
  ·have A:∀(m:List Value) (o:Nat) (k:World),Far (·=w.heap.size) k (k.setCells w.heap.size o m):=by
    intro m;induction m with
    |nil=>intro o k;exact ξ _ _
    |cons d r ih=>
     intro o k;unfold World.setCells;exact((ξ (·=w.heap.size) k).setCell (p:=⟨w.heap.size,o,O⟩) (λ_=>rfl) d).trans (ih _ _)
   exact s.trans ((A _ 0 f).to_below s.size (λi E e=>by omega))
end
section
attribute [local go_sem] ak
theorem mm(a0:Nat)(v:Value)(b c:List Nat)(l:Value)(G:NS)(S T:Nat)(w:World)(F:b.length<=1000000)(u:Row w G b.length l (xP b))(r:w.heap[S]? =W (J #[.int I (a0:Int),v,.map (W T)] 251 (0,0)))(o:xW π 3 w T (atM c 0))(bn:c.Nodup)(a9:∀i∈c,i<=9223372036854775807)(bm:∀j∈b,j∈c):
 Calls π 88 #[.pointer (W ⟨S,0,O⟩),l] w λe w'=>(∃R,e=ρ R/\Row w' (New w) b.length R (xP (b.map λj=>Tp.idx c j)))/\Below w.heap.size w w':=by
 obtain⟨b8,ab,A,x,d,k⟩:=mw b l G w F u;obtain⟨a,bx,rfl,_⟩:=u.form;obtain⟨q,D⟩:∃q,w.heap.size=q:=⟨_,rfl⟩;rw[D]at A x d;have E:=(k.block _ (lt_of_heap r)).trans r;have L:=o.below k o.lt;have b6:=lt_of_heap r;have bD:=o.lt;generalize hN:b.length=g at A x F u ⊢;obtain⟨bq,an,a6,av,m⟩:=zx5 d k E L D;clear d k E L u r o D
 go_enter func88,ntmps88
 go_wp2_with fail
 clear A x
 go_loopw [16] (λs wr=>∃t:Nat,t<=g/\s=.int I (t:Int)/\PR wr q (xP ((b.take t).map λj=>Tp.idx c j)++xP (b.drop t))/\Far (·=q) ab wr) (λs _=>g - (Lib.intOf s).toNat)
 case atStart=>exact⟨0,z_ _,rfl,bq.out,ξ _ _⟩
 case round=>
  obtain⟨t,bR,rfl,d,f⟩:=hrel;by_cases a2:t < g
  ·obtain⟨j,n⟩:∃j,b[t]? =W j:=⟨_,zE (by rw[hN];exact a2)⟩
   have H:=bm j (zL n);have z:(xP ((b.take t).map λj=>Tp.idx c j)).length=t:=by simp[xP];omega
   have ad:xP (b.drop t)=.int I (j:Int)::xP (b.drop (t+1)):=by rw[aE b t j n];rfl
   rw[ad]at d;have b3:wr.cell? ⟨q,t,O⟩=W (.int I (j:Int)):=d.cell (by rw[zV (by omega),z,Nat.sub_self];rfl);have b5:=d.frozen t;have P:=f.heap a6.out (by have:=m.out;omega);have ao:=av.out.far f (by have:=m.out;omega);obtain⟨bs,bw,b0,_⟩:=bv P;have bb:=ao.look_in bh underlying249 (gC _) (.int I (j:Int)) (bW j (a9 j H)) false _ (sK c 0 j H) (λp d bk=>mW c 0 j bn p d bk);simp only[Bool.false_eq_true,if_false,Nat.zero_add]at bb;have C:=aQ d t (.int I ((c.idxOf j:Nat):Int));have al:(xP ((b.take t).map λj=>Tp.idx c j)++.int I (j:Int)::xP (b.drop (t+1))).set t (.int I ((c.idxOf j:Nat):Int))=xP ((b.take (t+1)).map λj=>Tp.idx c j)++xP (b.drop (t+1)):=by
    rw[List.set_append_right _ _ (by omega),z,Nat.sub_self,zB,zG,n];simp[xP,Tp.idx]
   rw[al]at C;have N:Far (·=q) ab (wr.setCell ⟨q,t,O⟩ (.int I ((c.idxOf j:Nat):Int))):=f.setCell (p:=⟨q,t,O⟩) (λ_=>rfl) _;have a1:(t:Int) < (g:Int):=by omega
   have b4:(0:Int)<=(t:Int):=by omega
   obtain⟨a4,a3⟩:=zx2 C N;clear d f C N al ad n ao P z;generalize ((c.idxOf j:Nat):Int)=X at *
   go_wp2_with fail
   go_roundw
   case rel=>exact⟨t+1,by omega,by go_num,a4.out,a3.out⟩
   case measure=>simp[Lib.intOf];omega
  ·obtain rfl:t=g:=by omega
   have a1:¬(t:Int) < (t:Int):=by omega
   rw[zR (by omega),List.drop_of_length_le (by omega)]at d;have y:PR wr q (xP (b.map λj=>Tp.idx c j)):=by simpa [xP]using d
   have ac:Row wr (New w) t (Y (W ⟨q,0,O⟩) t t) (xP (b.map λj=>Tp.idx c j)):=⟨_,q,0,t,rfl,⟨η _,by unfold maxLen;omega⟩,λ_=>by have:=m.out;show w.heap.size<=q;omega,λ_=>⟨rfl,y.lt,λi b2 be=>by rw[Nat.zero_add];exact y.cell be⟩⟩;have M:Below w.heap.size w wr:=an.out.trans (f.to_below an.out.size (λi b1 e=>by have:=m.out;omega));obtain⟨ba,a5⟩:=zx2 ac M;clear d y f ac M
   go_wp2_with fail
   go_ret
   exact⟨⟨_,rfl,ba.out⟩,a5.out⟩
end
section
attribute [local go_sem] ak
theorem mI:(prog.info? 185).map (λi=>(i.zero,i.size,i.bytes))=W (W (γ #[V I 0,V I 0,V I 0,U ⟨#[]⟩,Y O 0 0,Y O 0 0]),6,88):=by kernel_rfl
def AM(g:List Tp.Nd)(a:List Nat)(i:Nat):Tp.Nd:=let x:=g.getD i ⟨0,Tp.Sc.null,[],[]⟩;⟨x.k,x.x,Tp.keysOf x,(Tp.kidsOf x).map λj=>Tp.idx a j⟩
structure TyI(w4:World)(q7:Nat)(outs:List Tp.Nd)(t:Nat)(sa:Option Addr)(sn sc:Nat)(W:World):Prop where
 hd:W.heap[q7]? =some (J #[V I 0,Y sa sn sc] 54 (0,0))
 row:∃cs KG,W.ownsRow w4.heap.size 185 6 (Y sa sn sc) t cs/\xX W KG (outs.take t) cs/\∀k,KG k->w4.heap.size<=k/\k < W.heap.size/\(Value.slice sa sn sc).ownBlock≠some k
 far:Far (·=q7) w4 W
theorem TyI.step{b:World}{c:Nat}{i:List Tp.Nd}{t:Nat}{l:Option Addr}{j m:Nat}{g n:World}(u:TyI b c i t l j m g)(w:c < b.heap.size)(a:Far xO g n):TyI b c i t l j m n:=by
 obtain⟨q,⟨p,v,o,s,f⟩,r⟩:=u;exact⟨a.heap q id,⟨p,v,am o a (λ_ _ e=>e),xX.far a (λ_ _ _ e=>e) _ _ s,λk d=>⟨(f k d).1,zK (f k d).2.1 a.size,(f k d).2.2⟩⟩,r.step a (λ_ _ e=>e.elim)⟩
theorem TyI.grow{j:World}{b:Nat}{u:List Tp.Nd}{t:Nat}{g:Option Addr}{f i gg cap:Nat}{x:Tp.Nd}{kv A:Value}{c o:World}(a:TyI j b u t g f i c)(ad:b < j.heap.size)(T:u[t]? =W x)(l:NS)(s:∀k,l k->j.heap.size<=k/\k < c.heap.size/\(Value.slice g f i).ownBlock≠W k)
(d:Row c l x.keys.length kv (xV x.keys))(F:Row c l x.kids.length A (xP x.kids))(m:Far (λk=>(Value.slice g f i).ownBlock=W k) c o)(H:(Value.slice g f i).ownBlock=W gg\/c.heap.size<=gg)
(C:List Value)(r:NS)(S:xX c r (u.take t) C)(v:∀k,r k->j.heap.size<=k/\k < c.heap.size/\(Value.slice g f i).ownBlock≠W k)
(z:o.ownsRow j.heap.size 185 6 (Y (W ⟨gg,0,O⟩) (t+1) cap) (t+1) (C++[V I x.k,V I x.x.k,V I x.x.n,xR x.x.s,kv,A])):
 TyI j b u (t+1) (W ⟨gg,0,O⟩) (t+1) cap (o.setCell ⟨b,1,O⟩ (Y (W ⟨gg,0,O⟩) (t+1) cap)):=by
 have X:¬(Value.slice g f i).ownBlock=W b:=λe=>by
  obtain⟨_,⟨R,N,w,_,_⟩,_⟩:=a;have:=(w.lt b e).1;omega
 have L:gg≠b:=by
  have:=(z.lt gg rfl).1;omega
 have M:=m.heap a.hd X;have n:Far (·=b) o (o.setCell ⟨b,1,O⟩ (Y (W ⟨gg,0,O⟩) (t+1) cap)):=Far.setCell (D:=(·=b)) (ξ _ _) (p:=⟨b,1,O⟩) (λ_=>rfl) _;have G:∀k,j.heap.size<=k/\k < c.heap.size/\(Value.slice g f i).ownBlock≠W k->(Value.slice (W ⟨gg,0,O⟩) (t+1) cap).ownBlock≠W k:=λk d e=>by
  simp[Value.ownBlock]at e
  subst e;rcases H with a|a
  ·exact d.2.2 a
  ·omega
 have q:∀(K:NS),(∀k,K k->j.heap.size<=k/\k < c.heap.size/\(Value.slice g f i).ownBlock≠W k)->(∀k,K k->k < c.heap.size->¬(λk=>(Value.slice g f i).ownBlock=W k) k)/\(∀k,K k->k < o.heap.size->¬k=b):=λK E=>⟨λk d _ e=>(E k d).2.2 e,λk d _ e=>by have:=(E k d).1;omega⟩;refine⟨ai M 1 _,⟨_,λk=>r k\/l k,am z n (λk e a=>by injection e with e;exact L (e.trans a)),?_,λk d=>?_⟩,(a.far.step m (λk d e=>?_)).step n (λk _ e=>e)⟩
 ·rw[zG,T]
  have ab:=xX.far n (q r v).2 _ _ (xX.far m (q r v).1 _ _ S);have ac:=(d.far m (q l s).1).far n (q l s).2;have P:=(F.far m (q l s).1).far n (q l s).2;exact xX.snoc (ac.mono (λ_ a _=>.inr a)) (P.mono (λ_ a _=>.inr a)) _ _ (xX.mono (λ_ a _=>.inl a) _ _ ab)
 ·have y:j.heap.size<=k/\k < c.heap.size/\(Value.slice g f i).ownBlock≠W k:=by
   rcases d with a|a
   ·exact v k a
   ·exact s k a
  exact⟨y.1,zK y.2.1 (Nat.le_trans m.size n.size),G k y⟩
 ·obtain⟨_,⟨R,N,w,_,_⟩,_⟩:=a
  have:=(w.lt k e).1;omega
end
section
attribute [local go_sem] ak
theorem fA{e:Func}{a f:Tmp}(i:e.results=#[.cell a 54,.tmp f])(c:World)(q:Nat)(x d:Value)(b:Array Value)(k:c.heap[q]? =W (J #[x,d] 54 (0,0)))(l:b.getD a undef=Z (W ⟨q,0,O⟩)):
 (results e b).run π c=.ok (.tuple #[γ #[x,d],b.getD f undef]) c:=by
 have g:b[a]?.getD undef=Z (W ⟨q,0,O⟩):=by simpa using l
 have j:=run_loadVar_row (P:=π) c q 54 54 #[x,d] (0,0) _ k underlying54 rfl (by kernel_rfl);simp[results,i,asAddr,g,j,Sem.run_bind,Result.andThen]
def yR(g:List Tp.Nd):Prop:=(∀x∈g,yx x)/\g.length<=200
theorem fK(n:Nat)(x:Tp.Nd)(a:Tp.okNd n x=true):∀i∈x.kids,i < n:=by
 unfold Tp.okNd at a;intro i b;by_cases d:x.k=0
 ·rw[if_pos d]at a
  simp only[zQ,List.isEmpty_iff]at a;rw[a.2]at b;simp at b
 ·rw[if_neg d]at a
  by_cases c:x.k=1
  ·rw[if_pos c]at a
   simp only[zQ,List.all_eq_true,decide_eq_true_eq]at a;exact a.2 i b
  ·rw[if_neg c]at a
   simp only[zQ,List.all_eq_true,decide_eq_true_eq]at a;exact a.2 i b
theorem d8(g:List Tp.Nd)(n:Nat)(q:∀i,i < n->∀j∈Tp.kidsOf (g.getD i ⟨0,Tp.Sc.null,[],[]⟩),j < n):∀(m:Nat) (s d f:List Nat),Tp.walk g m s d=W f->d.Nodup->(∀i∈d,i < n)->(∀i∈s,i < n)->(∀i∈d,∀j∈Tp.kidsOf (g.getD i ⟨0,Tp.Sc.null,[],[]⟩),j∈d\/j∈s)->f.Nodup/\(∀i∈f,i < n)/\(∀i∈f,∀j∈Tp.kidsOf (g.getD i ⟨0,Tp.Sc.null,[],[]⟩),j∈f)
 |0,_,_,_,b,_,_,_,_=>by simp[Tp.walk]at b
 |m+1,[],d,f,b,h1,h2,h3,h4=>by
  simp[Tp.walk]at b
  subst b;exact⟨h1,h2,λi u j l=>by simpa using h4 i u j l⟩
 |m+1,i::r,d,f,b,h1,h2,h3,h4=>by
  simp only[Tp.walk]at b;by_cases p:i∈d
  ·rw[if_pos p]at b
   refine d8 g n q m r d f b h1 h2 (λk c=>h3 k (by simp[c])) (λk c j l=>?_);rcases h4 k c j l with b|b
   ·exact .inl b
   ·rcases List.mem_cons.1 b with rfl|b
    ·exact .inl p
    ·exact .inr b
  ·rw[if_neg p]at b
   refine d8 g n q m _ _ f b ?_ ?_ ?_ ?_
   ·rw[List.nodup_append]
    exact⟨h1,by simp,λa v w t e=>by simp at t;subst t;subst e;exact p v⟩
   ·intro k c
    rcases List.mem_append.1 c with b|b
    ·exact h2 k b
    ·simp at b;subst b;exact h3 _ (by simp)
   ·intro k c
    rcases List.mem_append.1 c with b|b
    ·exact q i (h3 i (by simp)) k b
    ·exact h3 k (by simp[b])
   ·intro k c j l
    rcases List.mem_append.1 c with b|b
    ·rcases h4 k b j l with o|o
     ·exact .inl (by simp[o])
     ·rcases List.mem_cons.1 o with rfl|o
      ·exact .inl (by simp)
      ·exact .inr (by simp[o])
    ·simp at b;subst b;exact .inr (List.mem_append.2 (.inl l))
theorem kj:∀(n:Nat) (l:List Nat),l.Nodup->(∀i∈l,i < n)->l.length<=n
 |0,l,_,h=>by
  cases l with
  |nil=>simp
  |cons i r=>have:=h i (by simp);omega
 |n+1,l,hn,h=>by
  have d:=kj n (l.erase n) (hn.erase n) (λi c=>by
   have b:=(hn.mem_erase_iff).1 c;have:=h i b.2;omega)
  have b:=List.length_erase (a:=n) (l:=l);split at b<;>omega
theorem ng(c:Nat)(g ac:List Tp.Nd)(v:Value)(a4:NS)(w:World)(b6:yc w a4 g v)(d1:∀k,a4 k->k < w.heap.size)(fc:Glob w)(bq:yt g)(al:yR g)(a3:Tp.tidy c g=W ac):
 Calls π 59 #[γ #[.int I (c:Int),v]] w λe w'=>(∃gf,e=ρ (.tuple #[γ #[.int I 0,gf],.int I 0])/\yc w' (New w) ac gf)/\Below w.heap.size w w':=by
 obtain⟨hJ,X,hA,h7,hX⟩:=info_parts mI;unfold Tp.tidy at a3;by_cases bm:Tp.okGr c g=true
 case neg=>rw[if_neg bm]at a3;cases a3
 rw[if_pos bm]at a3;obtain⟨l,dJ,gZ⟩:=zN.1 a3;have gj:ac=l.map (AM g l):=gZ.symm;have dp:=bm;unfold Tp.okGr at dp;simp only[zQ,decide_eq_true_eq,List.all_eq_true]at dp;obtain⟨⟨hx,i8⟩,f7⟩:=dp;have c2:∀x∈g,yx x/\∀i∈x.kids,i < g.length:=λx C=>⟨al.1 x C,fK _ x (f7 x C)⟩;have c5:l.Nodup/\(∀i∈l,i < g.length)/\(∀i∈l,∀j∈Tp.kidsOf (g.getD i ⟨0,Tp.Sc.null,[],[]⟩),j∈l):=d8 g g.length (λi X j a1=>by
  obtain⟨x,C⟩:∃x,g[i]? =W x:=⟨_,zE X⟩;rw[zY,C,Option.getD_some]at a1;exact(c2 x (zL C)).2 j (bj x j a1)) 20000 [c] [] l dJ List.nodup_nil (by simp) (λi X=>by simp at X;omega) (by simp)
 have h4:l.length<=200:=Nat.le_trans (kj _ l c5.1 c5.2.1) hx;obtain⟨a,n,rfl,i2⟩:=b6.form;obtain⟨d,ep⟩:∃d,g.length=d:=⟨_,rfl⟩;have ek:=λf (ab:Below w.heap.size w f)=>iE c a4 g _ f (b6.below ab) (λk b=>zK (d1 k b) ab.size) (fc.step ab) bq bm;rw[ep]at ek b6 ⊢;obtain⟨q,c3⟩:∃q,w.heap.size=q:=⟨_,rfl⟩;have dv:Below w.heap.size w ((w.alloc (J #[.int I (c:Int),Y a d n] 54)).alloc (J #[.int I 0,Y O 0 0] 54)):=((ζ _ w).alloc (η _) _).alloc (by simp) _;have ad:((w.alloc (J #[.int I (c:Int),Y a d n] 54)).alloc (J #[.int I 0,Y O 0 0] 54)).heap[q]? =W (J #[.int I (c:Int),Y a d n] 54 (0,0)):=by rw[<-c3];exact aa _ (af w _)
 have b3:((w.alloc (J #[.int I (c:Int),Y a d n] 54)).alloc (J #[.int I 0,Y O 0 0] 54)).heap[q+1]? =W (J #[.int I 0,Y O 0 0] 54 (0,0)):=ah _ _ _ (by simp[c3]);have fG:=zD (ek _ dv);obtain⟨h8,dW,G,dj⟩:=zx4 b6 dv c3 d1;obtain⟨hv,hT,_⟩:=bO ad;clear ek b6 dv c3 d1 fc bq a3
 go_enter func59,ntmps59
 go_upto_region 1 with (fail)
 have kc:((w.alloc (J #[.int I (c:Int),Y a d n] 54)).alloc (J #[.int I 0,Y O 0 0] 54)).heap.size=q+2:=by simp[G.out]
 rw[G.out];generalize ((w.alloc (J #[.int I (c:Int),Y a d n] 54)).alloc (J #[.int I 0,Y O 0 0] 54))=i5 at *
 go_wp2_with fail
 refine fG.out.mono ?_;rintro e a5 ⟨rfl,cb⟩
 replace ad:=(cb.block _ (lt_of_heap ad)).trans ad
 replace b3:=(cb.block _ (lt_of_heap b3)).trans b3
 have e8:=dW.out.trans (cb.mono dW.out.size);have hp:=cb.size;obtain⟨H,M,_⟩:=bO ad;have cv:=zD e8;clear cb e8 fG dW hv hT;have fT:=mi (c:Int) (Y a d n) ⟨_,_,_,rfl⟩ a5;have g0:=zD fT;clear fT
 go_wp2_with fail
 refine g0.out.mono ?_;rintro e y ⟨rfl,av⟩;generalize ab:a5.heap.size=r at av hp ⊢;have bw:Far xO a5 y:=by rw[av];exact(((ξ _ a5).alloc _).alloc _).alloc _
 have ds:y.heap[r+2]? =W (J #[.int I (c:Int),Y a d n,.map (W (r+1))] 251 (0,0)):=by rw[av];exact ah _ _ _ (by simp[ab])
 have hi:xW π 3 y (r+1) []:=by
  rw[av];have hr:(a5.alloc (J #[.int I (c:Int),Y a d n] 54)).heap.size=r+1:=by simp[ab]
  have:=aL (P:=π) (K:=3) (a5.alloc (J #[.int I (c:Int),Y a d n] 54));rw[hr]at this;exact this.far ((ξ xO _).alloc _) id
 have ck:y.heap.size=r+3:=by rw[av];simp[ab]
 have a9:=(h8.out.below cv.out).far bw (λ_ _ _ e=>e);have eq:=bw.heap ad id;have fS:=bw.heap b3 id;have ei:Below w.heap.size w y:=cv.out.trans (bw.to_below cv.out.size (λ_ _ e=>e));clear av bw g0 ad b3 H M cv
 go_upto_region 6 with (fail)
 have N:Far xO y (y.alloc (J #[.int I 0,Y O 0 0] 54)):=(ξ _ y).alloc _;have d6:=af y (J #[.int I 0,Y O 0 0] 54);rw[ck]at d6;have e7:=pI c g (Y a d n) a4 l (r+2) (r+1) _ (by rw[ep];omega) c2 dJ (by omega) (a9.far N (λ_ _ _ e=>e)) (λk b=>by have a6:=dj.out k b;have bD:=G.out;simp[ck];omega) (N.heap ds id) (hi.far N id);have fE:=N.heap eq id;have hg:=N.heap fS id;have f5:=N.heap ds id;have fY:=a9.far N (λ_ _ _ e=>e);have db:Below w.heap.size w (y.alloc (J #[.int I 0,Y O 0 0] 54)):=ei.alloc ei.size _;have er:(y.alloc (J #[.int I 0,Y O 0 0] 54)).heap.size=r+4:=by simp[ck]
 have f6:=zD e7;clear e7 N eq fS ds a9 ei hi ck;generalize (y.alloc (J #[.int I 0,Y O 0 0] 54))=hs at *
 go_wp2_with fail
 refine f6.out.mono ?_;rintro e bx ⟨⟨wr0,rfl,d5⟩,e6,S⟩;have di:=S.heap fE (by omega);have e0:=S.heap hg (by omega);have ge:=S.heap f5 (by omega);have gc:=S.heap d6 (by omega);have hf:=fY.far S (λk b _ e=>by have:=dj.out k b;have:=G.out;omega);have fl:Below w.heap.size w bx:=db.trans (S.to_below db.size (λi X e=>by have:=G.out;omega));have i9:r+4<=bx.heap.size:=by have:=S.size;omega
 obtain⟨jW,wc,rfl,_⟩:=d5.form;obtain⟨H,M,_⟩:=bO di;obtain⟨hH,gJ,hR,h2,h9,h1⟩:=zx6 er d5 e6 di e0 ge;obtain⟨hM,cc,hF⟩:=zx3 hf fl gc;generalize hL:l.length=b0 at h4 gJ ⊢;obtain⟨h6,co,e9⟩:=zx3 c2 c5 gj;clear fE hg f5 d6 fY db S d5 e6 di e0 ge gc hf fl f6 er c2 c5 gj f7 bm gZ dJ
 go_wp2_with fail
 go_loopw [27] (λs wr=>∃(t:Nat) (E:Option Addr) (u F:Nat),t<=b0/\s=.int I (t:Int)/\TyI bx (r+3) ac t E u F wr) (λs _=>b0 - (Lib.intOf s).toNat)
 case atStart=>exact⟨0,O,0,0,z_ _,rfl,hF.out,⟨[],xO,World.ownsRow_nil _ _ _ _,by rw[List.take_zero];unfold xX;rfl,λk T=>T.elim⟩,ξ _ _⟩
 case round=>
  obtain⟨t,E,u,F,jj,rfl,L⟩:=hrel;by_cases hy:t < b0
  ·obtain⟨i,be⟩:∃i,l[t]? =W i:=⟨_,zE (by rw[hL];exact hy)⟩
   have f9:=co.out.2.1 i (zL be);obtain⟨x,C⟩:∃x,g[i]? =W x:=⟨_,zE f9⟩;have c9:g.getD i ⟨0,Tp.Sc.null,[],[]⟩=x:=by rw[zY,C];rfl
   have fr:ac[t]? =W ⟨x.k,x.x,Tp.keysOf x,(Tp.kidsOf x).map λj=>Tp.idx l j⟩:=by
    rw[e9.out,List.getElem?_map,be];simp only[Option.map_some,AM,c9]
   have dm:=co.out.2.2 i (zL be);rw[c9]at dm;obtain⟨hm,_⟩:=h6.out x (zL C);have b4:=L.far;have hj:=hM.out.far b4 (λk b _ e=>by have:=dj.out k b;have:=G.out;omega);obtain⟨kv,gx,c4⟩:=hj.at C;rw[ep]at c4 f9;obtain⟨A,o,cap,e,kh,e5,ga,gb,d0,h5,hz⟩:=c4.cells;injection e with e1 e2 e3;clear e2;subst e1 e3;obtain⟨z,hk⟩:∃z,xR x.x.s=.string z:=⟨_,rfl⟩;rw[hk]at d0;obtain⟨kb,kk,iY,ho,_,iB,w0⟩:=(gJ.out.far b4 (λk b _ e=>by have T:hs.heap.size<=k:=b;have:=hH.out;omega)).nat be;injection ho with e01 e02 e03;subst e01 e03;have a0:=b4.heap h2.out (by omega);obtain⟨hG,hd,_⟩:=bO a0;have hY:(t:Int) < (b0:Int):=by omega
   have jK:(0:Int)<=(t:Int):=by omega
   have iC:(i:Int) < (d:Int):=by omega
   have jL:(0:Int)<=(i:Int):=by omega
   obtain⟨c0,fn,fX,f8,hV,hQ⟩:=zx6 L c4 b4 a0 fr dm;have d2:=zD hm;clear L hj c4 b4 a0 fr dm hm c9 C be H M
   go_upto_region 9 with (fail)
   have fw:∀f,Far xO wr f->f.cell? ⟨q,1,O⟩=W (Y (W ⟨A,o,O⟩) d n)/\f.cell? ⟨A,o+i * 6,O⟩=W (.int I x.k)/\f.cell? ⟨A,o+i * 6+1,O⟩=W (.int I x.x.k)/\f.cell? ⟨A,o+i * 6+2,O⟩=W (.int I x.x.n)/\f.cell? ⟨A,o+i * 6+3,O⟩=W (.string z):=λf al=>⟨al.at hd id,al.at e5 id,al.at ga id,al.at gb id,al.at d0 id⟩;obtain⟨m,c1⟩:∃q,wr.heap.size=q:=⟨_,rfl⟩;have ao:=af wr (J #[.int I 0,.int I 0,.int I 0,.string ⟨#[]⟩,Y O 0 0,Y O 0 0] 185);rw[c1]at ao;obtain⟨d4,dr,hn,e4,el,ef,u0,u1,u2,u3,u4,u5⟩:=pE ao
   go_region_held3 (λf=>f.cell? ⟨q,1,O⟩=W (Y (W ⟨A,o,O⟩) d n)/\f.cell? ⟨A,o+i * 6,O⟩=W (.int I x.k)/\f.cell? ⟨A,o+i * 6+1,O⟩=W (.int I x.x.k)/\f.cell? ⟨A,o+i * 6+2,O⟩=W (.int I x.x.n)/\f.cell? ⟨A,o+i * 6+3,O⟩=W (.string z)) (exact fw _ (by repeat (first|exact ξ _ _|assumption|refine Far.drew ?_|refine Far.alloc ?_ _|refine Far.drewN ?_ _|refine Far.setCell ?_ (λT=>absurd T (by simp only[c1];exact Nat.lt_irrefl _)) _))) (fail)
   have R:Far xO wr ((wr.alloc (J #[.int I x.k,.int I x.x.k,.int I x.x.n,.string z,Y O 0 0,Y O 0 0] 185)).drew):=((ξ _ wr).alloc _).drew;have f0:((wr.alloc (J #[.int I x.k,.int I x.x.k,.int I x.x.n,.string z,Y O 0 0,Y O 0 0] 185)).drew).heap[m]? =W (J #[.int I x.k,.int I x.x.k,.int I x.x.n,.string z,Y O 0 0,Y O 0 0] 185 (0,0)):=by rw[<-c1];exact af wr (J #[.int I x.k,.int I x.x.k,.int I x.x.n,.string z,Y O 0 0,Y O 0 0] 185)
   have fR:((wr.alloc (J #[.int I x.k,.int I x.x.k,.int I x.x.n,.string z,Y O 0 0,Y O 0 0] 185)).drew).heap.size=m+1:=by rw[<-c1];exact Array.size_push ..
   have a0:=R.heap f8.out id;clear d4 dr hn e4 el ef u0 u1 u2 u3 u4 u5 ao fw e5 ga gb d0 h5 hz w0 hG hd;generalize ((wr.alloc (J #[.int I x.k,.int I x.x.k,.int I x.x.n,.string z,Y O 0 0,Y O 0 0] 185)).drew)=dC at *;obtain⟨H,M,_⟩:=bO a0;have f1:=bS (c:Int) x _ kv gx d i a4 dC (fn.out.far R (λ_ _ _ e=>e)) d2.out;obtain⟨g1,eg,g5,ch⟩:=zx4 f1 f0 R fR;clear f1 f0 R fR a0
   go_wp2_with fail
   refine g1.out.mono ?_;rintro e b1 ⟨⟨kg,rfl,dc⟩,cm⟩;obtain⟨ba,ca,rfl,_⟩:=dc.form;have cf:=(cm.block _ (lt_of_heap eg.out)).trans eg.out;have u4:=ag cf 4;have el:=zF cf 4 rfl;have cT:Far (·=m) b1 (b1.setCell ⟨m,4,O⟩ (Y ba (Tp.keysOf x).length ca)):=Far.setCell (D:=(·=m)) (ξ _ _) (p:=⟨m,4,O⟩) (λ_=>rfl) _;have gd:=ai cf 4 (Y ba (Tp.keysOf x).length ca);have hc:=g5.out.below cm;have cl:Far xO wr (b1.setCell ⟨m,4,O⟩ (Y ba (Tp.keysOf x).length ca)):=hc.step cT (λk b e=>by omega);have ex:=(dc.mono (G':=λk=>dC.heap.size<=k/\k < b1.heap.size) (λk a6 bD=>⟨a6,bD⟩)).far cT (λk b _ e=>by have:=ch.out;omega);have g8:=cl.heap f8.out id;have fL:=bQ (c:Int) x _ kv gx d i a4 _ (fn.out.far cl (λ_ _ _ e=>e)) d2.out;have j9:=cm.size;have iv:=cT.size;obtain⟨es,cS,f3,he,gR⟩:=zx5 fL gd cl ex g8;clear dc cm cf cT gd hc cl ex g8 fL g1 eg g5 H M
   go_upto_region 11 with (fail)
   simp only[Array.setIfInBounds,zA,zB,zC]at cS;generalize (b1.setCell ⟨m,4,O⟩ (Y ba (Tp.keysOf x).length ca))=hP at *;obtain⟨H,M,_⟩:=bO gR.out
   go_wp2_with fail
   refine es.out.mono ?_;rintro e g6 ⟨⟨i3,rfl,en⟩,bn⟩;obtain⟨ka,i7,rfl,_⟩:=en.form;have dn:=f3.out.below bn;have iw:(Tp.kidsOf x).length<=100000:=Nat.le_trans (bI x) d2.out.2.2;have ej:=fX.out.step dn (λ_ _ e=>e.elim);have gr:=mm c (Y (W ⟨A,o,O⟩) d n) (Tp.kidsOf x) l _ (New hP) (r+2) (r+1) g6 (by omega) en (ej.heap h1.out (by omega)) (hR.out.far ej (by omega)) co.out.1 (λj a1=>by have:=co.out.2.1 j a1;omega) hQ.out;have fs:=(bn.block _ (lt_of_heap cS.out)).trans cS.out;have gQ:=he.out.below bn;have i4:=bn.size;obtain⟨f4,gl,df,gk⟩:=zx4 gr dn fs gQ;clear en bn dn ej gr fs gQ es cS f3 he gR H M
   go_wp2_with fail
   refine f4.out.mono ?_;rintro e b5 ⟨⟨jb,rfl,d3⟩,bs⟩;obtain⟨b2,b8,rfl,_⟩:=d3.form;have c6:=(bs.block _ (lt_of_heap df.out)).trans df.out;have u5:=ag c6 5;have ef:=zF c6 5 rfl;have bk:Far (·=m) b5 (b5.setCell ⟨m,5,O⟩ (Y b2 (Tp.kidsOf x).length b8)):=Far.setCell (D:=(·=m)) (ξ _ _) (p:=⟨m,5,O⟩) (λ_=>rfl) _;have ao:=ai c6 5 (Y b2 (Tp.kidsOf x).length b8);have g4:Far xO wr (b5.setCell ⟨m,5,O⟩ (Y b2 (Tp.kidsOf x).length b8)):=(gl.out.below bs).step bk (λk b e=>by omega);have fv:=(gk.out.below bs).far bk (λk b _ e=>by have:=ch.out;omega);have gO:=(d3.mono (G':=λk=>g6.heap.size<=k/\k < b5.heap.size) (λk a6 bD=>⟨a6,bD⟩)).far bk (λk b _ e=>by have:=ch.out;omega);have kd:=bs.size;have it:=bk.size;simp only[Array.setIfInBounds,zA,zB,zC]at ao;obtain⟨hE,bR,hS,hW⟩:=zx4 ao g4 fv gO;clear d3 bs c6 bk ao g4 fv gO f4 df gl gk
   go_upto_region 13 with (fail)
   generalize (b5.setCell ⟨m,5,O⟩ (Y b2 (Tp.kidsOf x).length b8))=b9 at *;obtain⟨ct,ha,an,a2,bb⟩:=c0.out.row;have dg:=bR.out.heap c0.out.hd id;have f2:=am an bR.out (λ_ _ e=>e);have eM:=xX.far bR.out (λ_ _ _ e=>e) _ _ a2;have fz:=c0.out.step (by omega) bR.out;have ft:∀k,(Value.slice E u F).ownBlock=W k->k < m:=λk e=>by have:=(an.lt k e).2;omega
   obtain⟨H,M,hw,hq⟩:=bO dg;obtain⟨d4,dr,hn,e4,el,ef,_⟩:=pE hE.out;have i0:=bR.out.size;have i6:=fX.out.size;have kf:=ch.out;obtain⟨hZ,h3,gN,hN,hI,hK⟩:=zx6 eM bb f2 fz ft dg;clear an dg f2 a2 eM bb fz ft c0
   go_wp2_with (at_builtin;refine wpList_append_lies _ rfl (.tmp 62) (.tmp 64) 52 rfl bx.heap.size 185 hJ _ 6 88 underlying52 X hA h7 hX rfl (by decide) (Y E u F) t ct rfl (gN.out.alloc _) ⟨b9.heap.size,0,O⟩ 1 1 [.int I x.k,.int I x.x.k,.int I x.x.n,.string z,Y ba (Tp.keysOf x).length ca,Y b2 (Tp.kidsOf x).length b8] rfl rfl (λj jw a1=>by rw[gK];exact(ae (af b9 _) j).trans (by simpa using a1)) (by simp[Value.oneCell']) (by omega) (by unfold maxLen;omega) (by omega) (by simp;omega) _ rfl ?_;intro gg cap w5 g3 hl g7 js;have R:Far (λk=>(Value.slice E u F).ownBlock=W k) b9 w5:=(((ξ (λk=>(Value.slice E u F).ownBlock=W k) b9).alloc _).grown hl (λk e _=>e));have dl:=R.heap hK.out (λe=>by have:=(gN.out.lt _ e).1;omega);have i1:w5.cell? ⟨r+3,1,O⟩=W (Y E u F):=ae dl 1;have kl:w5.frozen? ⟨r+3,1,O⟩=false:=ag dl 1;have hD:=zD R;have fu:=zD g3;have hu:=zD g7;clear R g3 hl g7 dl)
   have g2:=TyI.grow (x:=⟨x.k,x.x,Tp.keysOf x,(Tp.kidsOf x).map λj=>Tp.idx l j⟩) hN.out (by omega) hV.out (λk=>dC.heap.size<=k/\k < b9.heap.size) (λk b=>⟨by omega,b.2,λe=>by have:=hI.out k e;omega⟩) (hS.out.mono (λk b _=>⟨b.1,by omega⟩)) (by rw[List.length_map];exact hW.out.mono (λk b _=>⟨by omega,by omega⟩)) hD.out (by
    rcases hu.out with T|T
    ·exact .inl T
    ·exact .inr (by rw[T];simp)) ct ha hZ.out (λk b=>by
    obtain⟨a6,bD,ht⟩:=h3.out k b;exact⟨a6,by omega,ht⟩) (by rw[<-hk]at fu;exact fu.out)
   have h0:=zD g2;clear g2
   go_roundw
   case rel=>exact⟨t+1,_,_,_,by omega,by go_num,h0.out⟩
   case measure=>simp[Lib.intOf];omega
  ·obtain rfl:t=b0:=by omega
   obtain⟨ct,ha,an,a2,bb⟩:=L.row;have hB:ac.length=t:=by rw[e9.out,List.length_map,hL]
   rw[zR (by omega)]at a2;have hC:=cz an;subst hC;have hb:=L.hd;have dA:=L.far.heap h9.out (by have:=G.out;omega);obtain⟨H,M,_⟩:=bO hb;obtain⟨d4,dr,hw,hq⟩:=bO dA;obtain⟨hh,da⟩:=wZ dA (.int I 0) (Y E u F);have bq:yc wr (λk=>bx.heap.size<=k) ac (Y E u F):=⟨ct,by rw[hB];exact az an,xX.mono (λk b _=>(bb k b).1) _ _ a2⟩;have a9:=(bq.far da (λk b _ e=>by omega)).mono (G':=New w) (λk b _=>by have:=cc.out.size;show w.heap.size<=k;omega);have gM:Below w.heap.size w ((wr.setCell ⟨q+1,0,O⟩ (.int I 0)).setCell ⟨q+1,1,O⟩ (Y E u F)):=(cc.out.trans (L.far.to_below cc.out.size (λi X e=>by have:=G.out;omega))).trans (da.to_below (by have:=cc.out.size;have:=L.far.size;omega) (λi X e=>by have:=G.out;omega));have hY:¬(u:Int) < (u:Int):=by omega
   obtain⟨hU,ie,ih⟩:=zx3 a9 gM hh;clear an a2 bb hb dA hh da bq a9 gM L
   go_wp2_with fail
   exact bodyPost_ret (fA results59 _ (q+1) _ _ _ ih.out rfl) rfl ⟨⟨_,rfl,hU.out⟩,ie.out⟩
end
theorem il(g:List Tp.Nd)(v:Value)(s:NS)(w:World)(i:yc w s g v)(S:∀k,s k->k < w.heap.size)(H:Glob w)(z:yt g)(D:yR g)(G:Tp.tidy 0 g=W g):
 Calls π 91 #[γ #[V I 0,v]] w λe w'=>e=ρ (β true)/\Below w.heap.size w w':=by
 have c:Below w.heap.size w (w.alloc (J #[V I 0,v] 54)):=(ζ _ w).alloc (η _) _;have y:=ng 0 g g v s _ (i.below c) (λk R=>zK (S k R) c.size) (H.step c) z D G;have f:=af w (J #[V I 0,v] 54);obtain⟨q,u⟩:∃q,w.heap.size=q:=⟨_,rfl⟩;rw[u]at f;obtain⟨X,T,_⟩:=bO f;obtain⟨a,N,rfl,_⟩:=i.form;obtain⟨P,n,C,A,a1⟩:=zx5 y c i f u;clear y c i f H z D G
 go_enter func91,ntmps91
 go_upto_region 1 with (fail)
 generalize (w.alloc (J #[V I 0,Y a g.length N] 54))=ac at *;clear u
 go_wp2_with fail
 refine P.out.mono ?_;rintro e b ⟨⟨al,rfl,o⟩,r⟩;obtain⟨d,j,rfl,_⟩:=o.form;have x:=(r.block _ (lt_of_heap A.out)).trans A.out;have p:=n.out.trans (r.mono n.out.size);have t:Below w.heap.size w (b.alloc (J #[V I 0,Y d g.length j] 54)):=p.alloc p.size _;have l:Far xO b (b.alloc (J #[V I 0,Y d g.length j] 54)):=(ξ _ b).alloc _;have E:=tg 0 g (Y a g.length N) (Y d g.length j) (λ_=>True) _ ((C.out.below t).mono (λ_ _ _=>trivial)) ((o.far l (λ_ _ _ e=>e)).mono (λ_ _ _=>trivial));have M:=l.heap x id;obtain⟨ad,av,_⟩:=bO M;obtain⟨ao,an,_⟩:=bO (af b (J #[V I 0,Y d g.length j] 54));obtain⟨F,m⟩:=zx2 E t;clear o r x p t l E M P n C X T
 go_wp2_with fail
 refine F.out.mono ?_;rintro e a0 ⟨rfl,L⟩;have ab:=m.out.trans (L.to_below m.out.size (λ_ _ e=>e));clear L F m
 go_wp2_with fail
 go_ret
 exact⟨rfl,ab⟩
section
attribute [local go_sem] ak
structure zd(w:World)(cb nb:Nat)(v:Value)(ns:List Nat):Prop where
 blk:w.heap[cb]? =W (J #[V I 0,v,Y (W ⟨nb,0,O⟩) ns.length ns.length] 337 (0,0))
 num:PR w nb (xP ns)
 ne:nb≠cb
theorem zd.far{D:NS}{w w':World}{a c:Nat}{v:Value}{e:List Nat}(b:zd w a c v e)(d:Far D w w')(g:¬D a)(f:¬D c):zd w' a c v e:=⟨d.heap b.blk g,b.num.far d f,b.ne⟩
theorem fP(a:Nat)(q:a<=1000000)(w:World):∃c,(Instr.makeSlice 122 (V I (a:Int)) (V I (a:Int))).run π w=.ok (Y (W ⟨w.heap.size,0,O⟩) a a) c/\PR c w.heap.size (xP (List.replicate a 0))/\Below w.heap.size w c:=by
 obtain⟨g,m,l,n,f⟩:=info_parts gI;obtain⟨p,k,j,o⟩:=run_make_full (P:=π) w w.heap.size 122 3 g _ 1 underlying122 m l n I I a (by rw[f];omega) (by unfold maxLen;omega) (η _);have d:=bK j;have e:(madeCells (Value.int I 0).cells (a * 1)).toList=xP (List.replicate a 0):=by
  apply List.ext_getElem?
  intro i;rw[Array.getElem?_toList];unfold xP;rw[List.getElem?_map,List.getElem?_replicate];by_cases b:i < a
  ·rw[if_pos b]
   simp[madeCells,b,Nat.mod_one,Value.cells]
  ·rw[if_neg b]
   simp[madeCells,b]
 rw[e]at d;exact⟨p,k,d,(ζ _ w).grown o (η _) (λ_ e=>by cases e)⟩
theorem lH(g:List Tp.Nd)(v:Value)(C:NS)(w:World)(x:yc w C g v)(ao:∀k,C k->k < w.heap.size)(X:Glob w)(H:yt g)(u:yR g)(S:Tp.tidy 0 g=W g):
 Calls π 127 #[γ #[V I 0,v]] w λe w'=>(∃t M,e=ρ (.tuple #[Z (W ⟨t,0,O⟩),V I 0])/\zd w' t M v (List.replicate g.length 0)/\w.heap.size<=t/\w.heap.size<=M)/\Below w.heap.size w w':=by
 have f:Below w.heap.size w (w.alloc (J #[V I 0,v] 54)):=(ζ _ w).alloc (η _) _;have r:=il g v C _ (x.below f) (λk an=>zK (ao k an) f.size) (X.step f) H u S;have j:=af w (J #[V I 0,v] 54);obtain⟨q,D⟩:∃q,w.heap.size=q:=⟨_,rfl⟩;rw[D]at j;obtain⟨ab,N,_⟩:=bO j;obtain⟨a,l,rfl,_⟩:=x.form;obtain⟨b,y⟩:∃b,g.length=b:=⟨_,rfl⟩;have a2:b<=200:=y ▸ u.2;rw[y]at r f j ab N ⊢;obtain⟨al,s,L,a6⟩:=zx4 r f j D;clear r f x j X H u S y
 go_enter func127,ntmps127
 go_upto_region 1 with (fail)
 generalize (w.alloc (J #[V I 0,Y a b l] 54))=a4 at *;clear D
 go_wp2_with fail
 refine al.out.mono ?_;rintro e c ⟨rfl,A⟩;have F:=(A.block _ (lt_of_heap L.out)).trans L.out;have T:=s.out.trans (A.mono s.out.size);obtain⟨m,o,_⟩:=bO F;obtain⟨d,a0,R,ad⟩:=fP b (by omega) c.drew;have ac:Far xO c d:=((ξ xO c).drew).below ad;obtain⟨z,i,n⟩:=zx3 R ac T;clear A F T al s ab N R ad ac
 go_wp2_with fail
 go_region_held3 (λG=>G.cell? ⟨q,0,O⟩=W (V I 0)/\G.cell? ⟨q,1,O⟩=W (Y a b l)) (first|exact⟨m,o⟩|exact⟨(i.out.at m id),(i.out.at o id)⟩|exact⟨((i.out.alloc _).at m id),((i.out.alloc _).at o id)⟩) (fail)
 have p:Far xO d (d.alloc (J #[V I 0,Y a b l,Y (W ⟨c.heap.size,0,O⟩) b b] 337)):=(ξ _ d).alloc _;have a3:c.heap.size < d.heap.size:=z.out.lt;have P:zd (d.alloc (J #[V I 0,Y a b l,Y (W ⟨c.heap.size,0,O⟩) b b] 337)) d.heap.size c.heap.size (Y a b l) (List.replicate b 0):=⟨by rw[List.length_replicate];exact af _ _,z.out.far p id,by omega⟩;have E:=n.out.trans ((i.out.trans p).to_below n.out.size (λ_ _ e=>e));have a5:=n.out.size;obtain⟨a1,av⟩:=zx2 P E;clear p P E a0 z i n m o
 go_wp2_with fail
 go_ret2
 exact⟨⟨_,_,rfl,a1.out,by omega,by omega⟩,av.out⟩
theorem pu(g:List Tp.Nd)(v:Value)(b8:NS)(F b L S q:Nat)(be:g.length=q)(dW:q<=200)(dg:∀x∈g,(∀i∈x.kids,i < q)/\x.kids.length<=100000):∀(f i d:Nat) (n t:List Nat) (w:World),Tp.deepest g f i d n=W t->i < q->n.length=q->d+f<=5000->yc w b8 g v->(∀k,b8 k->k≠b)->zd w F b v n->w.heap[L]? =W (J #[Z (W ⟨F,0,O⟩)] 266 (0,0))->w.heap[S]? =W (J #[φ (.func 174) #[] #[Z (W ⟨L,0,O⟩),Z (W ⟨S,0,O⟩)]] 335 (0,0))->L≠b->S≠b->
 Calls π 174 #[V I (i:Int),V I (d:Int),Z (W ⟨L,0,O⟩),Z (W ⟨S,0,O⟩)] w λe w'=>(∃b6,e=ρ b6)/\t.length=q/\zd w' F b v t/\Far (·=b) w w':=by
 intro f;induction f using Nat.strongRecOn with
 |ind f ih=>
 intro i d n t w r ek bb d3 R N l X a2 ao a9;cases f with
 |zero=>simp[Tp.deepest]at r
 |succ f=>
 obtain⟨x,C⟩:∃x,g[i]? =W x:=⟨_,zE (by omega)⟩;obtain⟨m,P⟩:∃m,n[i]? =W m:=⟨_,zE (by omega)⟩;have ab:g.getD i ⟨0,Tp.Sc.null,[],[]⟩=x:=by rw[zY,C];rfl
 have al:n.getD i 0=m:=by rw[zY,P];rfl
 simp only[Tp.deepest]at r;rw[ab,al]at r;obtain⟨a,bw,rfl,_⟩:=R.form;obtain⟨ct,b4,cc,_⟩:=bv l.blk;have dp:=zF X 0 rfl;have di:w.cell? ⟨b,i,O⟩=W (V I (m:Int)):=l.num.cell (by unfold xP;rw[List.getElem?_map,P];rfl);have cb:=l.num.frozen i;have en:(0:Int)<=(i:Int):=by omega
 have d0:(i:Int) < (q:Int):=by omega
 rw[be]at b4;rw[bb]at cc;by_cases a0:0 < m
 ·rw[if_pos a0]at r
  have e:n=t:=by simpa using r
  subst e;have dj:(0:Int) < (m:Int):=by omega
  have dl:=zD l;clear l R X a2 C P ih ab al r cb
  go_enter func174,ntmps174
  go_wp2_with fail
  exact bodyPost_ret (v:=.tuple #[]) (by simp[results,results174,go_sem]) rfl ⟨⟨_,rfl⟩,bb,dl.out,ξ _ _⟩
 ·rw[if_neg a0]at r
  have dj:¬(0:Int) < (m:Int):=by omega
  have c1:m=0:=by omega
  subst c1;have A:Far (·=b) w (w.setCell ⟨b,i,O⟩ (V I (d:Int))):=Far.setCell (D:=(·=b)) (ξ _ _) (p:=⟨b,i,O⟩) (λ_=>rfl) _;have a6:=aQ l.num i (V I (d:Int));have ca:(xP n).set i (V I (d:Int))=xP (n.set i d):=by unfold xP;rw[List.map_set]
  rw[ca]at a6;have cf:=A.heap l.blk (λe=>l.ne e.symm);have an:zd (w.setCell ⟨b,i,O⟩ (V I (d:Int))) F b (Y a g.length bw) (n.set i d):=⟨by rw[List.length_set];exact cf,a6,l.ne⟩;have ad:=R.far A (λk u _ e=>N k u e);have ac:=A.heap X ao;have b1:=A.heap a2 a9;obtain⟨kv,eg,T⟩:=ad.at C;obtain⟨cT,o,cap,e,e0,dA,d6,ef,ei,er,d1⟩:=T.cells;injection e with e1 a4 e3;clear a4;subst e1 e3;obtain⟨el,dv,rfl,_⟩:=T.kid.form;obtain⟨c0,c2,dc,c6,c5⟩:=zx5 an ad ac b1 A;have b9:=zD T.kid;obtain⟨bm,df⟩:=dg x (zL C);have bR:(n.set i d).length=q:=by rw[List.length_set];exact bb
  obtain⟨ep,dr,dn,_⟩:=bv an.blk;rw[be]at dr;rw[bR]at dn;have eq:=zF ac 0 rfl;clear l R X a2 A a6 cf an ad ac b1 T ca ab al C P a0
  go_enter func174,ntmps174
  go_upto_region 2 with (fail)
  generalize (w.setCell ⟨b,i,O⟩ (V I (d:Int)))=dm at *;clear ct b4 cc dp di cb
  go_wp2_with fail
  obtain⟨y,b5⟩:∃y,x.kids.length=y:=⟨_,rfl⟩;have b2:Tp.deepestL g f (d+1) x.kids (n.set i d)=W t:=r;obtain⟨db,co,ck⟩:=zx3 b2 ih bm;clear r b2 ih bm;rw[b5]at b9 df ⊢
  go_loopw [33] (λs wr=>∃(j:Nat) (m:List Nat) (E:Nat),j<=y/\E<=f/\s=V I (j:Int)/\Tp.deepestL g E (d+1) (x.kids.drop j) m=W t/\m.length=q/\zd wr F b (Y (W ⟨cT,o,O⟩) g.length bw) m/\Far (·=b) w wr/\Far (·=b) dm wr) (λs _=>y - (Lib.intOf s).toNat)
  case atStart=>exact⟨0,_,f,z_ _,η _,rfl,db.out,bR,c0.out,c5.out,ξ _ _⟩
  case round=>
   obtain⟨j,m,E,ej,d5,rfl,c,c4,M,G,z⟩:=hrel;by_cases cv:j < y
   ·obtain⟨k,u⟩:∃k,x.kids[j]? =W k:=⟨_,zE (by rw[b5];exact cv)⟩
    rw[aE _ _ _ u]at c;cases E with
    |zero=>simp[Tp.deepestL]at c
    |succ f1=>
    simp only[Tp.deepestL]at c;cases H:Tp.deepest g f1 k (d+1) m with
    |none=>rw[H]at c;cases c
    |some m2=>
    rw[H]at c;simp only at c;have bk:=c2.out.far z (λk u _ e=>N k u e);have b3:=z.heap dc.out ao;have a3:=z.heap c6.out a9;have bx:=co.out f1 (by omega) k (d+1) m m2 wr H (ck.out k (zL u)) c4 (by omega) bk N M b3 a3 ao a9;obtain⟨es,d4,eM,a4,c9,ex,ba⟩:=b9.out.nat u;injection a4 with e21 e22 e23;subst e21 e23
    replace ba:=z.at ba (λe=>N _ c9 e)
    have cl:=zF a3 0 rfl;have cS:(j:Int) < (y:Int):=by omega
    have dJ:(0:Int)<=(j:Int):=by omega
    have dC:IntKind.i64.wrap ((d:Int)+1)=((d+1:Nat):Int):=by rw[show ((d+1:Nat):Int)=(d:Int)+1 by omega];exact zU _ (by omega)
    obtain⟨ch,da,bn,bs⟩:=zx4 bx c G z;clear bx c G z M bk b3 a3 u H
    go_wp2_with fail
    refine ch.out.mono ?_;rintro e d2 ⟨⟨b6,rfl⟩,ds,bD,av⟩;have bq:=bn.out.trans av;have b0:=bs.out.trans av;obtain⟨a1,a5,cm⟩:=zx3 bD bq b0;clear bD bq b0 av ch bn bs ba cl
    go_wp2_with fail
    go_roundw
    case rel=>exact⟨j+1,m2,f1,by omega,by omega,by go_num,da.out,ds,a1.out,a5.out,cm.out⟩
    case measure=>simp[Lib.intOf];omega
   ·obtain rfl:j=y:=by omega
    have cS:¬(j:Int) < (j:Int):=by omega
    rw[List.drop_of_length_le (by omega)]at c;have c3:m=t:=by
     cases E with
     |zero=>simp[Tp.deepestL]at c
     |succ f1=>simpa [Tp.deepestL]using c
    subst c3;obtain⟨a1,a5⟩:=zx2 M G;clear c M G z
    go_wp2_with fail
    go_end0
    exact⟨⟨_,rfl⟩,by rw[<-be];exact a1.out,a5.out⟩
end
section
attribute [local go_sem] ak
theorem sx{w w0:World}{d b:Nat}{v:Value}{a:List Nat}(c:zd w d b v a)(g:w0.heap.size<=b)(f:a.length<=maxLen):Row w (New w0) a.length (Y (W ⟨b,0,O⟩) a.length a.length) (xP a):=⟨_,b,0,a.length,rfl,⟨η _,f⟩,λ_=>g,λ_=>⟨rfl,c.num.lt,λi j e=>by rw[Nat.zero_add];exact c.num.cell e⟩⟩
theorem pt(g:List Tp.Nd)(v:Value)(y:NS)(z:List Nat)(w:World)(A:yc w y g v)(G:∀k,y k->k < w.heap.size)(al:Glob w)(av:yt g)(f:yR g)(a0:Tp.tidy 0 g=W g)(a9:Tp.deepest g 1000 0 1 (List.replicate g.length 0)=W z)(C:Tp.okGr 0 g=true):
 Calls π 126 #[γ #[V I 0,v]] w λe w'=>(∃a3,e=ρ (.tuple #[a3,V I 0])/\z.length=g.length/\Row w' (New w) g.length a3 (xP z))/\Below w.heap.size w w':=by
 have o:Below w.heap.size w (w.alloc (J #[V I 0,v] 54)):=(ζ _ w).alloc (η _) _;have ab:=lH g v y _ (A.below o) (λk E=>zK (G k E) o.size) (al.step o) av f a0;unfold Tp.okGr at C;simp only[zQ,decide_eq_true_eq,List.all_eq_true]at C;obtain⟨⟨_,b1⟩,a1⟩:=C;have bb:∀x∈g,(∀i∈x.kids,i < g.length)/\x.kids.length<=100000:=λx ad=>⟨fK _ x (a1 x ad),(f.1 x ad).2.2⟩;obtain⟨a,bw,rfl,_⟩:=A.form;have bx:=f.2;obtain⟨a6,N,be,bq⟩:=zx4 ab o A G;clear ab o A al av f a0 G a1
 go_enter func126,ntmps126
 go_wp2_with fail
 refine a6.out.mono ?_;rintro e d ⟨⟨c,l,rfl,P,ba,a2⟩,T⟩;have s:=N.out.trans (T.mono N.out.size);have b9:w.heap.size+1<=d.heap.size:=by have:=T.size;simpa using this
 have ck:w.heap.size<=c:=by simp at ba;omega
 have b3:w.heap.size<=l:=by simp at a2;omega
 have ch:=P.num.lt;obtain⟨b,X⟩:∃b,d.heap.size=b:=⟨_,rfl⟩;have p:Far xO d ((d.alloc (J #[Z (W ⟨c,0,O⟩)] 266)).alloc (J #[φ (.func 174) #[] #[Z (W ⟨b,0,O⟩),Z (W ⟨b+1,0,O⟩)]] 335)):=((ξ _ d).alloc _).alloc _;have F:((d.alloc (J #[Z (W ⟨c,0,O⟩)] 266)).alloc (J #[φ (.func 174) #[] #[Z (W ⟨b,0,O⟩),Z (W ⟨b+1,0,O⟩)]] 335)).heap[b]? =W (J #[Z (W ⟨c,0,O⟩)] 266 (0,0)):=by rw[<-X];exact aa _ (af d _)
 have M:((d.alloc (J #[Z (W ⟨c,0,O⟩)] 266)).alloc (J #[φ (.func 174) #[] #[Z (W ⟨b,0,O⟩),Z (W ⟨b+1,0,O⟩)]] 335)).heap[b+1]? =W (J #[φ (.func 174) #[] #[Z (W ⟨b,0,O⟩),Z (W ⟨b+1,0,O⟩)]] 335 (0,0)):=ah _ _ _ (by simp[X]);have ac:=(be.out.below s).far p (λ_ _ _ e=>e);have D:=P.far p id id;have ao:Below w.heap.size w ((d.alloc (J #[Z (W ⟨c,0,O⟩)] 266)).alloc (J #[φ (.func 174) #[] #[Z (W ⟨b,0,O⟩),Z (W ⟨b+1,0,O⟩)]] 335)):=s.trans (p.to_below s.size (λ_ _ e=>e));have bn:=λj (f:Far xO ((d.alloc (J #[Z (W ⟨c,0,O⟩)] 266)).alloc (J #[φ (.func 174) #[] #[Z (W ⟨b,0,O⟩),Z (W ⟨b+1,0,O⟩)]] 335)) j)=>pu g (Y a g.length bw) y c l b (b+1) g.length rfl bx bb 1000 0 1 _ z j a9 b1 (by simp) (by omega) (ac.far f (λ_ _ _ e=>e)) (λk E e=>by have:=bq.out k E;omega) (D.far f id id) (f.heap F id) (f.heap M id) (by omega) (by omega);obtain⟨a5,bD,b5,_⟩:=bv D.blk;have S:=zF F 0 rfl;have R:=zF M 0 rfl;obtain⟨bk,H,a4⟩:=zx3 bn ao F;clear bn ao p M ac D P T s a6 N be ba a2 a9 bb
 go_upto_region 6 with (fail)
 generalize ((d.alloc (J #[Z (W ⟨c,0,O⟩)] 266)).alloc (J #[φ (.func 174) #[] #[Z (W ⟨b,0,O⟩),Z (W ⟨b+1,0,O⟩)]] 335))=m at *;have b4:b≠l:=by omega
 have b8:l < b:=by omega
 clear X
 go_region_held3 (λj=>j.cell? ⟨b,0,O⟩=W (Z (W ⟨c,0,O⟩))/\j.cell? ⟨b+1,0,O⟩=W (φ (.func 174) #[] #[Z (W ⟨b,0,O⟩),Z (W ⟨b+1,0,O⟩)])/\j.cell? ⟨c,0,O⟩=W (V I 0)) (first|exact⟨S,R,a5⟩|exact⟨q.1,q.2.1,q.2.2⟩) (first|(go_at_call 174;refine(bk.out m.drew (ξ xO m).drew).mono ?_;rintro e r ⟨⟨cb,rfl⟩,t,u,n⟩;have q:r.cell? ⟨b,0,O⟩=W (Z (W ⟨c,0,O⟩))/\r.cell? ⟨b+1,0,O⟩=W (φ (.func 174) #[] #[Z (W ⟨b,0,O⟩),Z (W ⟨b+1,0,O⟩)])/\r.cell? ⟨c,0,O⟩=W (V I 0):=⟨n.at (show m.drew.cell? _=_ from S) (by omega),n.at (show m.drew.cell? _=_ from R) (by show ¬b+1=l;omega),(bv u.blk).1⟩))
 have bm:Below w.heap.size w r:=H.out.trans (((ξ (·=l) m).drew.trans n).to_below H.out.size (λi ca e=>by omega));have L:=sx (w0:=w) u b3 (by rw[t];unfold maxLen;omega);have an:=n.heap (show m.drew.heap[b]? =_ from a4.out) b4;obtain⟨b6,cc,bs,_⟩:=bv u.blk;have cf:=zF an 0 rfl;rw[t]at L bs;obtain⟨b0,b2,bR⟩:=zx3 L bm t;clear bm L an u n bk H a4 a5 bD b5 S R q t
 go_wp2_with fail
 go_ret2
 exact⟨⟨_,rfl,bR.out,b0.out⟩,b2.out⟩
end
end Go.Proofs.YtbikgdhbiebhcaaGreatDoor
