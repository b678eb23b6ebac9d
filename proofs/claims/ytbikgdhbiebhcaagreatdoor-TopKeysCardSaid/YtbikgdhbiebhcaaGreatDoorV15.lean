/- Part 15. -/
import Derived.Test.YtbikgdhbiebhcaaGreatDoorV14
set_option linter.unusedVariables false
set_option linter.unusedSimpArgs false
set_option maxRecDepth 100000
set_option maxHeartbeats 2000000
open Go.Value renaming int -> V, string -> U, slice -> Y, pointer -> Z, func -> φ, agg -> γ
open Go.IntKind renaming i64 -> I
open Option renaming some -> W, none -> O
open Go.Obj renaming cells -> J
open Go.Ending renaming returned -> ρ
open Go.Proofs.Tryz renaming prog -> π
open Nat renaming le_refl -> η
open And renaming intro -> θ
open Go.RowKit.Below renaming refl -> ζ
namespace Go.Proofs.YtbikgdhbiebhcaaGreatDoor
open Go.RowKit Tryz
section
attribute [local go_sem] ak
attribute [local go_sem] Oper.semAt_some
def LdQ(b:List Ln.Line)(t:Tp.Tree):Nat->Value->NS->World->Prop
 |0,_,_,_=>True
 |1,x,G,w=>∃v,x=.iface 101 v/\Row w G b.length v (ye b)
 |2,x,G,w=>∃a:List Value,x=.iface 78 (γ a.toArray)/\xS w G t a
 |_+3,_,_,_=>True
theorem LdQ.far{f:List Ln.Line}{t:Tp.Tree}(n:Nat)(x:Value)(b:NS)(d e:World)(D:NS)(i:LdQ f t n x b d)(c:Far D d e)(g:∀k,b k->¬D k):LdQ f t n x b e:=by
 match n,i with
 |0,_=>trivial
 |1,⟨v,h1,h2⟩=>exact⟨v,h1,h2.far c (λk a _=>g k a)⟩
 |2,⟨v,h1,h2⟩=>exact⟨v,h1,xS.far c (λk a _=>g k a) _ _ h2⟩
 |_+3,_=>trivial
def evT:Value:=γ #[V I 0,V I 101]
theorem LdT.step{s:ByteArray}{j:List Ln.Line}{w:List Tp.En}{k:Int}{g:Tp.B}{x:Tp.Sc}{c:List Tp.Sc}{i:List Tp.Tree}(b:LdT s j w ⟨k,g,x,c,i⟩)(D:Tp.shaped ⟨k,g,x,c,i⟩=true)(y:Tp.twice c=true)(n:Nat)(C:n < 3)(r:Value)(l:NS)(a:World)(z:LdQ j ⟨k,g,x,c,i⟩ n r l a)(q:Glob a)(A:DZ a)(t:∀k,l k->k < a.heap.size):
 Calls π (33+n) #[γ #[U s],r] a λe w'=>(∃u,e=ρ (.tuple #[u,erV evT n])/\LdQ j ⟨k,g,x,c,i⟩ (n+1) u (λk=>a.heap.size<=k/\k < w'.heap.size) w')/\Below a.heap.size a w':=by
 match n,C,z with
 |0,_,_=>
  refine(mz s b.size b.split r a q).mono ?_;rintro e w' ⟨⟨v,rfl,d⟩,f⟩;rw[b.lines]at d;exact⟨⟨_,rfl,v,rfl,(az d).mono (λk p m=>⟨p,m⟩)⟩,f⟩
 |1,_,⟨v,hx,d⟩=>
  subst hx;refine(nX (U s) .nilIface j w _ v l a d t b.few b.ind b.txt b.ents b.ens b.tree q).mono ?_;rintro e w' ⟨⟨o,rfl,d⟩,f⟩;exact⟨⟨_,rfl,o,rfl,xS.mono (λk p m=>⟨p,m⟩) _ _ d⟩,f⟩
 |2,_,⟨o,hx,hT⟩=>
  subst hx;refine(BR (U s) .nilIface k g x c i o l a hT b.good q A t D y).mono ?_;rintro e w' ⟨rfl,f⟩;exact⟨⟨_,rfl,trivial⟩,f⟩
structure LdJ(w:World)(b:Nat)(t:Nat)(F:NS)(W:World):Prop where
 le:t<=2
 tr:∃zk zS zx zn zT za1 zn1 zp1 za2 zn2 zp2,W.heap[b+1]? =some (J #[V I zk,U zS,V I zx,V I zn,U zT,Y za1 zn1 zp1,Y za2 zn2 zp2] 78 (0,0))
 gr:W.heap[b+2]? =some (J #[V I 0,Y O 0 0] 54 (0,0))
 er:W.heap[b+3]? =some (J #[.nilIface] 41 (0,0))
 own:F (b+1)/\F (b+2)/\F (b+3)
 low:∀k,F k->(b+1<=k/\k<=b+3)\/b+8<=k
 bel:Below b w W
theorem Ct{w c d:World}{g:NS}{b:Nat}(a:Below b w c)(f:Far (y8 xO g (b+6)) c d)(i:b<=c.heap.size):Below b w d:=
 a.trans (f.to_below i (λk _ e=>by rcases e.2 with a|a;exact a.elim;omega))
theorem LdJ.far{w:World}{c t:Nat}{f:NS}{d g:World}(y:LdJ w c t f d)(b:Far (y8 xO f (c+6)) d g)(l:c<=d.heap.size):LdJ w c t f g:=by
 obtain⟨k,⟨C,v,r,z,D,s,j,u,q,A,p,n⟩,i,m,a,x,o⟩:=y;exact⟨k,⟨C,v,r,z,D,s,j,u,q,A,p,b.heap n (λe=>e.1 a.1)⟩,b.heap i (λe=>e.1 a.2.1),b.heap m (λe=>e.1 a.2.2),a,x,Ct o b l⟩
structure LdX(w:World)(b:Nat)(c:Code)(F:NS)(W:World):Prop where
 ret:c=.ret
 tr:W.heap[b+1]? =some (J #[V I 0,U ⟨#[]⟩,V I 0,V I 0,U ⟨#[]⟩,Y O 0 0,Y O 0 0] 78 (0,0))
 gr:W.heap[b+2]? =some (J #[V I 0,Y O 0 0] 54 (0,0))
 er:W.heap[b+3]? =some (J #[.iface 109 evT] 41 (0,0))
 own:F (b+1)/\F (b+2)/\F (b+3)
 bel:Below b w W
theorem LdX.far{w:World}{b:Nat}{g:Code}{d:NS}{f i:World}(j:LdX w b g d f)(a:Far (y8 xO d (b+6)) f i)(p:b<=f.heap.size):LdX w b g d i:=by
 obtain⟨o,m,k,l,c,n⟩:=j;exact⟨o,a.heap m (λe=>e.1 c.1),a.heap k (λe=>e.1 c.2.1),a.heap l (λe=>e.1 c.2.2),c,Ct n a p⟩
theorem Cn(s:ByteArray)(co:List Ln.Line)(ef:List Tp.En)(k:Int)(b1:Tp.B)(x:Tp.Sc)(ac:List Tp.Sc)(bs:List Tp.Tree)(b:LdT s co ef ⟨k,b1,x,ac,bs⟩)(ds:Tp.shaped ⟨k,b1,x,ac,bs⟩=true)(b8:Tp.twice ac=true)(g:Nat)(T:TypeId)(w:World)(A:Glob w)(c1:DZ w)(ba:w.heap[g]? =W (J #[φ (.func 33) #[γ #[(U s)]] #[],φ (.func 34) #[γ #[(U s)]] #[],φ (.func 35) #[γ #[(U s)]] #[]] T (0,0))):
 Calls π 32 #[γ #[U s],Y (W ⟨g,0,O⟩) 3 3] w λe w'=>e=ρ (.tuple #[γ #[V I 0,U ⟨#[]⟩,V I 0,V I 0,U ⟨#[]⟩,Y O 0 0,Y O 0 0],γ #[V I 0,Y O 0 0],.iface 109 evT])/\Below w.heap.size w w':=by
 obtain⟨a,m⟩:∃a,w.heap.size=a:=⟨_,rfl⟩;obtain⟨c,e3⟩:∃c,Value.string s=c:=⟨_,rfl⟩;have bw:=λn M x C d=>b.step ds b8 n M x C d;rw[e3]at ba bw ⊢;have ep:10<=a:=by rw[<-m];exact A.1
 have j:Far xO w ((((w.alloc (J #[c] 75)).alloc (J #[V I 0,U ⟨#[]⟩,V I 0,V I 0,U ⟨#[]⟩,Y O 0 0,Y O 0 0] 78)).alloc (J #[V I 0,Y O 0 0] 54)).alloc (J #[.nilIface] 41)):=((((ξ _ w).alloc _).alloc _).alloc _).alloc _;have b4:((((w.alloc (J #[c] 75)).alloc (J #[V I 0,U ⟨#[]⟩,V I 0,V I 0,U ⟨#[]⟩,Y O 0 0,Y O 0 0] 78)).alloc (J #[V I 0,Y O 0 0] 54)).alloc (J #[.nilIface] 41)).heap[a]? =W (J #[c] 75 (0,0)):=by rw[<-m];exact aa _ (aa _ (aa _ (af w _)))
 have o:((((w.alloc (J #[c] 75)).alloc (J #[V I 0,U ⟨#[]⟩,V I 0,V I 0,U ⟨#[]⟩,Y O 0 0,Y O 0 0] 78)).alloc (J #[V I 0,Y O 0 0] 54)).alloc (J #[.nilIface] 41)).heap[a+1]? =W (J #[V I 0,U ⟨#[]⟩,V I 0,V I 0,U ⟨#[]⟩,Y O 0 0,Y O 0 0] 78 (0,0)):=aa _ (aa _ (ah _ _ _ (by simp[m])));have u:((((w.alloc (J #[c] 75)).alloc (J #[V I 0,U ⟨#[]⟩,V I 0,V I 0,U ⟨#[]⟩,Y O 0 0,Y O 0 0] 78)).alloc (J #[V I 0,Y O 0 0] 54)).alloc (J #[.nilIface] 41)).heap[a+2]? =W (J #[V I 0,Y O 0 0] 54 (0,0)):=aa _ (ah _ _ _ (by simp[m]));have dv:((((w.alloc (J #[c] 75)).alloc (J #[V I 0,U ⟨#[]⟩,V I 0,V I 0,U ⟨#[]⟩,Y O 0 0,Y O 0 0] 78)).alloc (J #[V I 0,Y O 0 0] 54)).alloc (J #[.nilIface] 41)).heap[a+3]? =W (J #[.nilIface] 41 (0,0)):=ah _ _ _ (by simp[m]);have ao:((((w.alloc (J #[c] 75)).alloc (J #[V I 0,U ⟨#[]⟩,V I 0,V I 0,U ⟨#[]⟩,Y O 0 0,Y O 0 0] 78)).alloc (J #[V I 0,Y O 0 0] 54)).alloc (J #[.nilIface] 41)).heap.size=a+4:=by simp[m]
 have d4:=zF b4 0 rfl;have c2:=j.heap ba id;have fu:g < a:=m ▸ lt_of_heap ba;refine callsIn_wide.1 (callsIn_of_wp_marks (n:=5) func32 rfl trivial (wpIn_wide.2 ?_));simp only[ntmps32,List.size_toArray,zO,List.length_nil,Nat.reduceAdd,Nat.reduceSub,Array.replicate_succ,Array.replicate_zero,List.push_toArray,List.append_toArray,List.nil_append,List.cons_append];obtain⟨F,dg,c3,ca,cv,e5⟩:=zx6 m j o u dv bw;obtain⟨b9,ej,eg⟩:=zx3 c2 A c1;clear j b4 o u dv bw c2 A ba b c1 ds b8
 go_upto_region 1 with (fail)
 generalize ((((w.alloc (J #[c] 75)).alloc (J #[V I 0,U ⟨#[]⟩,V I 0,V I 0,U ⟨#[]⟩,Y O 0 0,Y O 0 0] 78)).alloc (J #[V I 0,Y O 0 0] 54)).alloc (J #[.nilIface] 41))=r at *;clear m
 go_wp2_with fail
 refine(lO c _ 3 3 _).mono ?_;rintro e fc ⟨rfl,rfl⟩;rw[ao];have L:Far xO r ((r.alloc (J #[c] 75)).alloc (J #[Y (W ⟨g,0,O⟩) 3 3] 97)):=((ξ _ r).alloc _).alloc _;have ch:((r.alloc (J #[c] 75)).alloc (J #[Y (W ⟨g,0,O⟩) 3 3] 97)).heap.size=a+6:=by simp[ao]
 have ct:((r.alloc (J #[c] 75)).alloc (J #[Y (W ⟨g,0,O⟩) 3 3] 97)).heap[a+4+1]? =W (J #[Y (W ⟨g,0,O⟩) 3 3] 97 (0,0)):=ah _ _ _ (by simp[ao]);have cS:=n9 (erV evT) (λd=>Glob d/\DZ d) (Eh evT) (.inr ⟨_,rfl⟩) (γ #[c]) (λn=>33+n) (LdQ co ⟨k,b1,x,ac,bs⟩) (a+4+1) g ((r.alloc (J #[c] 75)).alloc (J #[Y (W ⟨g,0,O⟩) 3 3] 97)) ct T (L.heap b9.out id) (λn M=>ua n M) (λ_=>trivial) (λn x C d R D b E dW=>LdQ.far n x C d R D b E dW) (λn M x C d X cm ek=>e5.out n M x C d X cm.1 cm.2 ek);have c5:Below a w ((r.alloc (J #[c] 75)).alloc (J #[Y (W ⟨g,0,O⟩) 3 3] 97)):=(dg.out.trans L).to_below (by rw[F.out];exact η _) (λ_ _ e=>e.elim);have dc:LdJ w a 0 (λk=>a+1<=k/\k<=a+3) ((r.alloc (J #[c] 75)).alloc (J #[Y (W ⟨g,0,O⟩) 3 3] 97)):=⟨by omega,⟨_,_,_,_,_,_,_,_,_,_,_,L.heap c3.out id⟩,L.heap ca.out id,L.heap cv.out id,⟨by omega,by omega,by omega⟩,λk b=>.inl b,c5⟩;obtain⟨d6,e0,H⟩:=zx3 cS dc ch;clear L ch ct cS c5 dc c3 ca cv dg b9 d4;generalize ((r.alloc (J #[c] 75)).alloc (J #[Y (W ⟨g,0,O⟩) 3 3] 97))=fY at *;clear ao
 go_wp2_with fail
 refine wpIn_wide.1 (aC (n:=5) (gf:=69) (lb:=#[Z (W ⟨a+4+1,0,O⟩)]) rfl (λargs wx=>ud args wx)
  d6.out (λk e=>e.elim) (λk e=>by have:=H.out;rcases e with e|e<;>omega) (λt v C d b=>by obtain⟨x,rfl,_⟩:=b;rfl)
  (LdJ w a) (LdX w a) (λk=>a+1<=k/\k<=a+3) (λk b=>by have:=H.out;exact⟨λe=>e,λe=>by rcases e with e|e<;>omega,by omega,by omega,λ_=>by omega⟩) e0.out ?hI ?hIx (λt i d b=>⟨ej.out.keep b.bel ep,eg.out.far (Far.of_below (by rw[F.out];exact b.bel) xO) (λ_ _ e=>e)⟩) (λ_ _ _ _=>trivial) ?round (λi d b=>absurd b.le (by omega)) ?stop)
 case hI=>
  intro dJ i d R b E;rw[H.out]at E;exact b.far E (by have:=b.bel.size;rw[F.out]at this;exact this)
 case hIx=>
  intro dJ i d R b E;rw[H.out]at E;exact b.far E (by have:=b.bel.size;rw[F.out]at this;exact this)
 case round=>
  rintro n i C v d K M d2 hI ⟨x,rfl,X,e4⟩ A b3 S;have da:=H.out;rw[da]at d2 b3 A e4
  gi_wp2
  refine S _ _ (ξ _ _) ?_;intro y G _ _;rw[da]at G;obtain⟨fX,⟨fT,fs,fr,f0,f2,fG,fv,fL,fE,f1,fn,dm⟩,c4,c6,c0,dr,dn⟩:=hI;have dC:=G.size;have dp:=G.heap dm (by omega);have di:=G.heap c4 (by omega);have c9:=G.heap c6 (by omega);have cb:=dn.trans (G.to_below (B:=a) (by omega) (λk _ e=>by omega));have er:n=0\/n=1\/n=2:=by omega
  obtain⟨z,bq,bn,bR,bx,ad⟩:=zx6 c0 dr dp di c9 cb;obtain⟨b0,fR⟩:=zx2 b3 A;clear dm c4 c6 dn c0 dr S b3 A dp di c9 cb;rcases er with rfl|rfl|rfl
  ·obtain⟨v,rfl,en⟩:=X
   rw[show erV evT 0=.nilIface from rfl];have d1:=la1 v;have ft:=la2 v;clear en
   gi_wp2
   refine⟨i,⟨by omega,⟨_,_,_,_,_,_,_,_,_,_,_,bn.out⟩,bR.out,bx.out,z.out,bq.out,ad.out⟩,ξ _ _,λk b=>⟨.inl b,λ_=>by have:=(b0.out k b).2.2 trivial;omega⟩⟩
  ·obtain⟨e6,rfl,cT⟩:=X
   rw[show erV evT 1=.nilIface from rfl];obtain⟨a5,a1,bk,bm,be,bb,a0,a6,av,a2,al,rfl⟩:=cT.form;have d1:=la3 (γ #[V I a5,U a1,V I bk,V I bm,U be,Y bb a0 a6,Y av a2 al]);have j:Far xO y (y.alloc (J #[V I a5,U a1,V I bk,V I bm,U be,Y bb a0 a6,Y av a2 al] 78)):=(ξ _ y).alloc _;have o:=j.heap bn.out id;have u:=j.heap bR.out id;have P:=j.heap bx.out id;obtain⟨_,_,_,_,_,_,_,el,d3,eq,d0,e1,ex,eM⟩:=bd o;obtain⟨N,l⟩:=aG o (V I a5) (U a1) (V I bk) (V I bm) (U be) (Y bb a0 a6) (Y av a2 al);have b5:=l.heap u (by omega);have ck:=l.heap P (by omega);have bD:Below a y (y.alloc (J #[V I a5,U a1,V I bk,V I bm,U be,Y bb a0 a6,Y av a2 al] 78)):=j.to_below (by omega) (λ_ _ e=>e.elim);have dj:=(ad.out.trans bD).trans (l.to_below (B:=a) (by have:=bD.size;omega) (λk _ e=>by omega));have b6:Far i y _:=(j.mono (λ_ _ e=>e.elim)).step l (λk _ (e:k=a+1)=>by rw[e];exact z.out.1);have f:=zD (θ N (θ b5 (θ ck (θ dj b6))));clear cT u P N l b5 ck bD dj b6 j o
   gi_wp2
   refine⟨i,⟨by omega,⟨_,_,_,_,_,_,_,_,_,_,_,f.out.1⟩,f.out.2.1,f.out.2.2.1,z.out,bq.out,f.out.2.2.2.1⟩,f.out.2.2.2.2,λk b=>⟨.inl b,λ_=>by have:=(b0.out k b).2.2 trivial;have:=f.out.2.2.2.2.size;omega⟩⟩
  ·rw[show erV evT 2=.iface 109 evT from rfl]
   obtain⟨_,_,_,_,_,_,_,el,d3,eq,d0,e1,ex,eM⟩:=bd bn.out;obtain⟨N,l⟩:=aG bn.out (V I 0) (U ⟨#[]⟩) (V I 0) (V I 0) (U ⟨#[]⟩) (Y O 0 0) (Y O 0 0);have u:=l.heap bR.out (by omega);have P:=l.heap bx.out (by omega);obtain⟨_,_,e8,fS⟩:=bO u;obtain⟨cf,a9⟩:=wZ u (V I 0) (Y O 0 0);have o:=a9.heap N (by omega);have a3:=a9.heap P (by omega);have fw:=ag a3 0;have e9:=ae a3 0;have db:=ai a3 0 (.iface 109 evT);have a4:Far (·=a+3) (((((((((y.setCell ⟨a+1,0,O⟩ (V I 0)).setCell ⟨a+1,1,O⟩ (U ⟨#[]⟩)).setCell ⟨a+1,2,O⟩ (V I 0)).setCell ⟨a+1,3,O⟩ (V I 0)).setCell ⟨a+1,4,O⟩ (U ⟨#[]⟩)).setCell ⟨a+1,5,O⟩ (Y O 0 0)).setCell ⟨a+1,6,O⟩ (Y O 0 0)).setCell ⟨a+2,0,O⟩ (V I 0)).setCell ⟨a+2,1,O⟩ (Y O 0 0)) ((((((((((y.setCell ⟨a+1,0,O⟩ (V I 0)).setCell ⟨a+1,1,O⟩ (U ⟨#[]⟩)).setCell ⟨a+1,2,O⟩ (V I 0)).setCell ⟨a+1,3,O⟩ (V I 0)).setCell ⟨a+1,4,O⟩ (U ⟨#[]⟩)).setCell ⟨a+1,5,O⟩ (Y O 0 0)).setCell ⟨a+1,6,O⟩ (Y O 0 0)).setCell ⟨a+2,0,O⟩ (V I 0)).setCell ⟨a+2,1,O⟩ (Y O 0 0)).setCell ⟨a+3,0,O⟩ (.iface 109 evT)):=Far.setCell (D:=(·=a+3)) (ξ _ _) (p:=⟨a+3,0,O⟩) (λ_=>rfl) _;have t1:=a4.heap o (by omega);have t2:=a4.heap cf (by omega);have b2:=((l.mono (D':=i) (λk _ (e:k=a+1)=>by rw[e];exact z.out.1)).trans (a9.mono (D':=i) (λk _ (e:k=a+2)=>by rw[e];exact z.out.2.1))).trans (a4.mono (D':=i) (λk _ (e:k=a+3)=>by rw[e];exact z.out.2.2));have dA:=ad.out.trans (b2.to_below (B:=a) (by have:=ad.out.size;rw[F.out]at this;exact this) (λk _ e=>by have:=bq.out k e;omega));have f:=zD (θ t1 (θ t2 (θ db (θ b2 dA))));clear N l u P cf a9 o a3 db a4 t1 t2 b2 dA X
   gi_wp2
   exact⟨i,⟨rfl,f.out.1,f.out.2.1,f.out.2.2.1,z.out,f.out.2.2.2.2⟩,f.out.2.2.2.1,λk b=>⟨.inl b,λ_=>zK ((b0.out k b).2.2 trivial) (Nat.le_trans dC f.out.2.2.2.1.size)⟩⟩
 case stop=>
  rintro e7 i d ⟨rfl,dl,df,cc,fz,cl⟩ S d5;rw[H.out]at S d5 ⊢;have ab:=zD (θ dl (θ df (θ cc cl)));clear dl df cc cl;refine wpIn_wide.2 ?_
  go_wp2_with fail
  refine au (q:=a+6) rfl S ?_;intro R an;have es:=an.heap ab.out.1 (by omega);have e2:=an.heap ab.out.2.1 (by omega);have ei:=zF (an.heap ab.out.2.2.1 (by omega)) 0 rfl;refine⟨_,mg results32 R (a+1) (a+2) (a+3) _ _ _ _ es rfl e2 rfl ei rfl rfl rfl,rfl,?_⟩;rw[F.out];exact ab.out.2.2.2.trans (an.to_below (B:=a) (by have:=ab.out.2.2.2.size;rw[F.out]at this;exact this) (λk fl e=>by omega))
end
section
attribute [local go_sem] ak
theorem CK(s:ByteArray)(E:List Ln.Line)(R:List Tp.En)(k:Int)(j:Tp.B)(x:Tp.Sc)(f:List Tp.Sc)(t:List Tp.Tree)(h:LdT s E R ⟨k,j,x,f,t⟩)(T:Tp.shaped ⟨k,j,x,f,t⟩=true)(z:Tp.twice f=true)(w:World)(S:Glob w)(o:DZ w):
 Calls π 18 #[U s] w λe w'=>e=ρ (.tuple #[γ #[V I 0,Y O 0 0],V I 0,V I 101])/\Below w.heap.size w w':=by
 obtain⟨a,c⟩:∃a,w.heap.size=a:=⟨_,rfl⟩;have d:Far xO w (((w.alloc (J #[V I 0,Y O 0 0] 54)).alloc (J #[U s] 75)).alloc (J #[φ (.func 33) #[γ #[(U s)]] #[],φ (.func 34) #[γ #[(U s)]] #[],φ (.func 35) #[γ #[(U s)]] #[]] 81)):=(((ξ _ w).alloc _).alloc _).alloc _;have v:(((w.alloc (J #[V I 0,Y O 0 0] 54)).alloc (J #[U s] 75)).alloc (J #[φ (.func 33) #[γ #[(U s)]] #[],φ (.func 34) #[γ #[(U s)]] #[],φ (.func 35) #[γ #[(U s)]] #[]] 81)).heap[a]? =W (J #[V I 0,Y O 0 0] 54 (0,0)):=by rw[<-c];exact aa _ (aa _ (af w _))
 have X:(((w.alloc (J #[V I 0,Y O 0 0] 54)).alloc (J #[U s] 75)).alloc (J #[φ (.func 33) #[γ #[(U s)]] #[],φ (.func 34) #[γ #[(U s)]] #[],φ (.func 35) #[γ #[(U s)]] #[]] 81)).heap[a+2]? =W (J #[φ (.func 33) #[γ #[(U s)]] #[],φ (.func 34) #[γ #[(U s)]] #[],φ (.func 35) #[γ #[(U s)]] #[]] 81 (0,0)):=ah _ _ _ (by simp[c]);have ac:=Cn s E R k j x f t h T z (a+2) 81 (((w.alloc (J #[V I 0,Y O 0 0] 54)).alloc (J #[U s] 75)).alloc (J #[φ (.func 33) #[γ #[(U s)]] #[],φ (.func 34) #[γ #[(U s)]] #[],φ (.func 35) #[γ #[(U s)]] #[]] 81)) (S.far d (λ_ _ e=>e)) (o.far d (λ_ _ e=>e)) X;have a0:(((w.alloc (J #[V I 0,Y O 0 0] 54)).alloc (J #[U s] 75)).alloc (J #[φ (.func 33) #[γ #[(U s)]] #[],φ (.func 34) #[γ #[(U s)]] #[],φ (.func 35) #[γ #[(U s)]] #[]] 81)).heap.size=a+3:=by simp[c]
 have av:((w.alloc (J #[V I 0,Y O 0 0] 54)).alloc (J #[U s] 75)).cell? ⟨a+1,0,O⟩=W (U s):=ae (ah _ _ _ (by simp[c])) 0;obtain⟨L,A,N,ao,a3⟩:=zx5 ac d v c o;clear ac d v X h S o T z
 go_enter func18,ntmps18
 go_wp2_with fail
 refine L.out.mono ?_;rintro e b ⟨rfl,i⟩;unfold evT;obtain⟨q,an⟩:∃q,b.heap.size=q:=⟨_,rfl⟩;have r:Far xO b ((b.alloc (J #[V I 0,U ⟨#[]⟩,V I 0,V I 0,U ⟨#[]⟩,Y O 0 0,Y O 0 0] 78)).alloc (J #[V I 0,Y O 0 0] 54)):=((ξ _ b).alloc _).alloc _;have G:((b.alloc (J #[V I 0,U ⟨#[]⟩,V I 0,V I 0,U ⟨#[]⟩,Y O 0 0,Y O 0 0] 78)).alloc (J #[V I 0,Y O 0 0] 54)).heap[q+1]? =W (J #[V I 0,Y O 0 0] 54 (0,0)):=ah _ _ _ (by simp[an]);have al:=i.size;rw[a0]at al;have n:=(A.out.below i).trans r;have F:=r.heap ((Far.of_below i xO).heap N.out id) id;have ad:=zD (Cw 0 101 _ (a3.out.far n (λ_ _ e=>e)));obtain⟨u,C,m⟩:=zx3 G n F;clear r G n F i L A N av
 go_wp2_with fail
 generalize ((b.alloc (J #[V I 0,U ⟨#[]⟩,V I 0,V I 0,U ⟨#[]⟩,Y O 0 0,Y O 0 0] 78)).alloc (J #[V I 0,Y O 0 0] 54))=bb at *;refine ad.out.mono ?_;rintro e w5 ⟨rfl,g⟩;have M:=(g.block _ (lt_of_heap u.out)).trans u.out;have l:=(g.block _ (lt_of_heap m.out)).trans m.out;obtain⟨a6,a9,_⟩:=bO M;obtain⟨ba,a5,be,a4⟩:=bO l;have H:=C.out.below g;have P:((w5.setCell ⟨a,0,O⟩ (V I 0)).setCell ⟨a,1,O⟩ (Y O 0 0)).heap[a]? =W (J #[V I 0,Y O 0 0] 54 (0,0)):=ai (ai l 0 _) 1 _;have y:Far (·=a) w5 ((w5.setCell ⟨a,0,O⟩ (V I 0)).setCell ⟨a,1,O⟩ (Y O 0 0)):=Far.setCell (D:=(·=a)) (Far.setCell (D:=(·=a)) (ξ _ _) (p:=⟨a,0,O⟩) (λ_=>rfl) _) (p:=⟨a,1,O⟩) (λ_=>rfl) _;have a1:=zD P;have a2:=zD ((H.step y (λk hk (e:k=a)=>by have:=ao.out;omega)).to_below (η _) (λ_ _ e=>e));clear M l H P y g u m C ad
 go_wp2_with fail
 exact bodyPost_ret (ox results18 _ _ _ _ _ a1.out rfl) rfl ⟨rfl,a2.out⟩
theorem Cp(s:ByteArray)(g:List Ln.Line)(j:List Tp.En)(k:Int)(b:Tp.B)(x:Tp.Sc)(a:List Tp.Sc)(d:List Tp.Tree)(o:LdT s g j ⟨k,b,x,a,d⟩)(n:Tp.shaped ⟨k,b,x,a,d⟩=true)(f:Tp.twice a=true)(w:World)(m:Glob w)(i:DZ w):
 Calls π 7 #[U s] w λe w'=>e=ρ (.tuple #[U ⟨#[]⟩,V I 101])/\Below w.heap.size w w':=by
 have l:=zD (CK s g j k b x a d o n f w m i);clear o m i n f
 go_enter func7,ntmps7
 go_wp2_with fail
 refine l.out.mono ?_;rintro e q ⟨rfl,c⟩;have p:=zD (c.alloc c.size (J #[V I 0,Y O 0 0] 54));clear c l
 go_wp2_with fail
 go_ret2
 exact⟨rfl,p.out⟩
end
theorem Dg(a:ByteArray):xR (yJ a)=U (cut20 a):=by
 unfold xR yJ;rw[Array.toArray_toList]
def D5(x:Tp.Sc):Tp.Sc:=⟨x.k,x.n,yJ ⟨x.s.toArray⟩⟩
theorem CY(x:Tp.Sc):(D5 x).s.length<=20:=un _
def D4(a:List Tp.Sc):Tp.B:=a.flatMap λx=>Tp.scText x++[58,32,55,44,32]
theorem Cr:∀a:List Tp.Sc,D4 a++[125]=Tp.rowK a
 | []=>rfl
 |s::r=>by
  have:=Cr r;unfold D4 at this ⊢;rw[List.flatMap_cons,Tp.rowK,List.append_assoc,List.append_assoc,this];rfl
theorem DP(a:List Tp.Sc)(x:Tp.Sc):D4 (a++[x])=(D4 a++Tp.scText x)++[58,32,55,44,32]:=by
 unfold D4;rw[List.flatMap_append,List.flatMap_cons,List.flatMap_nil];simp
theorem DO(a:List Tp.Sc)(x:Tp.Sc):Tp.wantK (a++[x])=(Tp.wantK a++Tp.scText x)++[58,32,55,10]:=by
 unfold Tp.wantK;rw[List.flatMap_append,List.flatMap_cons,List.flatMap_nil];simp
theorem B1:∀a:List Tp.Sc,(∀x∈a,Tp.okKey x)->(D4 a).length<=a.length * 87
 | [],_=>by simp[D4]
 |s::r,h=>by
  have d:=Tp.gV s (h s (by simp));have b:=B1 r λx c=>h x (by simp[c]);unfold D4 at b ⊢;rw[List.flatMap_cons,zP,zP,show (s::r).length=r.length+1 from rfl,Nat.add_mul];simp only[zO,List.length_nil];omega
theorem BJ:∀a:List Tp.Sc,(∀x∈a,Tp.okKey x)->(Tp.wantK a).length<=a.length * 86
 | [],_=>by simp[Tp.wantK]
 |s::r,h=>by
  have d:=Tp.gV s (h s (by simp));have b:=BJ r λx c=>h x (by simp[c]);unfold Tp.wantK at b ⊢;rw[List.flatMap_cons,zP,zP,show (s::r).length=r.length+1 from rfl,Nat.add_mul];simp only[zO,List.length_nil];omega
theorem De(a:List Tp.Sc)(b:a≠[]):(Tp.wantK a).isEmpty=false:=by
 obtain⟨x,c,rfl⟩:=List.exists_cons_of_ne_nil b;unfold Tp.wantK;rw[List.flatMap_cons];cases Tp.scText x<;>rfl
theorem Ch(a:List Tp.Sc)(b:∀x∈a,Tp.okKey x):Tp.shaped (Tp.mapT a)=true:=by
 simp only[Tp.mapT,Tp.shaped,show ¬(2:Int)=0 by decide,show ¬(2:Int)=1 by decide,if_false,if_true,decide_true,List.length_map,beq_self_eq_true,Bool.true_and,List.isEmpty_nil,Bool.true_or,Bool.and_true];exact List.all_eq_true.2 λx c=>(b x c).1
theorem CB(a:List Tp.Sc)(d:a.length<=9)(b:∀x∈a,Tp.okKey x)(f:Tp.twice a=true)(w:World)(g:Glob w)(c:DZ w):Calls π 7 #[xR (123::Tp.rowK a)] w λe w'=>e=ρ (.tuple #[U ⟨#[]⟩,V I 101])/\Below w.heap.size w w':=
 Cp _ _ _ _ _ _ _ _ (DF a d b) (Ch a b) f w g c
theorem BW(a:List Tp.Sc)(x:Tp.Sc):xV (a++[x])=xV a++[V I x.k,V I x.n,xR x.s]:=by simp[xV]
theorem DM(l:List Tp.Sc)(e0:Option Addr)(ct cap g o:Nat){w:World}(cm:Glob w)(es:DZ w)(f1:l.length=ct/\ct<=maxLen)(ej:∀x∈l,x.s.length<=maxLen/\(Lit.int I x.k).wf=true/\(Lit.int I x.n).wf=true)(e7:RA w e0 g o (xV l)):
 Calls π 4 #[Y e0 ct cap] w λe w'=>e=ρ (.bool true)/\Below w.heap.size w w':=by
 obtain⟨c9,eM⟩:=f1;obtain⟨gc,fl,eq,ft,e8⟩:=info_parts uG;generalize hN:ct=bm at c9 eM ⊢;clear hN;obtain⟨p,G⟩:∃p,w.heap.size=p:=⟨_,rfl⟩;have ga:10<=p:=by rw[<-G];exact cm.1
 unfold maxLen at eM;have fG:=ol w cm;obtain⟨e6,e5,e3,el,dW,bw⟩:=zx6 fG cm es ej e7 c9;obtain⟨a,ck⟩:∃K,(l.take 9).map D5=K:=⟨_,rfl⟩;have co:=zD ck;have e4:a.length<=9:=by rw[<-ck,List.length_map];exact List.length_take_le 9 l
 have e1:∀x∈a,x.s.length<=20:=λx f=>by rw[<-ck]at f;obtain⟨ao,_,rfl⟩:=List.mem_map.1 f;exact CY ao
 obtain⟨dJ,dA⟩:=zx2 e4 e1;clear ej e7 c9 cm es fG ck e4 e1
 go_enter func4,ntmps4
 go_wp2_with fail
 refine e6.out.mono ?_;rintro e hh ⟨rfl,eg⟩;rw[G]at eg;have fc:=zD eg;clear eg e6
 go_upto_block 0 with (fail)
 go_cut [4,5]from 18 to 55 (λdp T wx=>∃(u:Option Addr) (E z:Nat),dp=Y u E z/\wx.ownsRow p 30 3 (Y u E z) a.length (xV a)/\Below p w wx)
 case first=>
  go_wp2_with fail
  go_loopw [4,5] (λdp T wr=>∃(t:Nat) (u:Option Addr) (E z:Nat),t<=bm/\t<=9/\T=.int I (t:Int)/\dp=Y u E z/\wr.ownsRow p 30 3 (Y u E z) t (xV ((l.take t).map D5))/\Below p w wr) (λ_ T _=>9 - (Lib.intOf T).toNat)
  case atStart=>exact⟨0,O,0,0,z_ _,z_ _,rfl,rfl,World.ownsRow_nil _ _ _ _,fc.out⟩
  case round=>
   obtain⟨t,u,E,z,ha,hm,rfl,rfl,C,c⟩:=hrel;by_cases bb:t < bm
   ·by_cases hk:t < 9
    ·obtain⟨x,f⟩:∃x,l[t]? =W x:=⟨_,zE (by rw[bw.out];exact bb)⟩
     obtain⟨fs,_,_⟩:=el.out x (zL f);obtain⟨bx,fu,fr⟩:=gX l t x f;obtain⟨rfl,g0,c5⟩:=(dW.out.keep (by rw[G];exact c)) (λe=>by rw[e]at bx;simp at bx);obtain⟨s,be⟩:∃s,xR x.s=.string s:=⟨_,rfl⟩;have f9:=cU _ _ be;have a1:=c5 _ _ bx;have av:wr.cell? ⟨g,o+t * 3+1,O⟩=W (.int I x.n):=by rw[Nat.add_assoc];exact c5 _ _ fu
     have F:wr.cell? ⟨g,o+t * 3+2,O⟩=W (xR x.s):=by rw[Nat.add_assoc];exact c5 _ _ fr
     rw[be]at F;have gM:x.s.length<=9223372036854775807:=fs;have hl:g < p:=by rw[<-G];exact(dW.out (λe=>by rw[e]at bx;simp at bx)).2.1
     have bR:xV ((l.take (t+1)).map D5)=xV ((l.take t).map D5)++[.int I x.k,.int I x.n,.string (cut20 s)]:=by
      rw[zG,f,List.map_append];show xV (_++[D5 x])=_;rw[BW];show _++[_,_,xR (yJ ⟨x.s.toArray⟩)]=_;rw[Dg];unfold xR at be;injection be with be;rw[be];rfl
     have bq:(t:Int) < (bm:Int):=by omega
     have f0:(t:Int) < 9:=by omega
     have fn:(0:Int)<=(t:Int):=by omega
     have g5:min (s.size:Int) 20=((min s.size 20:Nat):Int):=by omega
     have g6:(0:Int)<=((min s.size 20:Nat):Int):=by omega
     have hj:((min s.size 20:Nat):Int)<=(s.size:Int):=by omega
     have ei:p<=wr.heap.size:=by have:=c.size;omega
     obtain⟨fY,ds,m⟩:=zx3 bR C c;clear C c bR f bx fu fr be f9 fs c5
     go_upto_region 6 with (fail)
     refine wp_region_noPanic ?_;refine ar (λn=>n.cell? ⟨g,o+t * 3,O⟩=W (.int I x.k)/\n.cell? ⟨g,o+t * 3+1,O⟩=W (.int I x.n)/\n.cell? ⟨g,o+t * 3+2,O⟩=W (.string s)) [] (by kernel_rfl) ?_;refine ay 20 (by kernel_rfl) (λ_ _ _ _ d=>d) (show (λn=>n.cell? ⟨g,o+t * 3,O⟩=W (.int I x.k)/\n.cell? ⟨g,o+t * 3+1,O⟩=W (.int I x.n)/\n.cell? ⟨g,o+t * 3+2,O⟩=W (.string s)) wr.drew from ⟨a1,av,F⟩) 3 [0,1,2,3,4,5,6,7,8,9,10,11,12,13,14,15,16,17,18,19,20,21,22,23,24] _ _ (by kernel_rfl) ?_;iterate 25 (refine Ei ?_;(try go_frame))
     refine xT.done ?_;try dsimp only
     refine aq [25] ?_;refine aj rfl (λK cb=>?_) xQ.nil
     go_simp
     have a6:Far xO wr (wr.drew.alloc (J #[.int I x.k,.int I x.n,.string (cut20 s)] 30)):=(ξ _ wr).drew.alloc _;have ex:(λn=>n.cell? ⟨g,o+t * 3,O⟩=W (.int I x.k)/\n.cell? ⟨g,o+t * 3+1,O⟩=W (.int I x.n)/\n.cell? ⟨g,o+t * 3+2,O⟩=W (.string s)) (wr.drew.alloc (J #[.int I x.k,.int I x.n,.string (cut20 s)] 30)):=⟨a6.at a1 id,a6.at av id,a6.at F id⟩;refine cb.out _ _ (λ_=>ex) ?_;clear cb K
     (try go_frame)
     refine aq [26] ?_;refine aj rfl (λK cb=>?_) xQ.nil;refine wp_append_lies _ (.tmp 28) (.tmp 53) 28 rfl p 30 gc _ 3 32 underlying28 fl eq ft e8 rfl (by decide) (Y u E z) t _ rfl (aw ds.out a6 (λ_ _ _ e=>e)) ⟨wr.heap.size,0,O⟩ 1 1 [.int I x.k,.int I x.n,.string (cut20 s)] ?_ rfl ?_ ?_ (by decide) ?_ ?_ ?_ _ rfl ?_
     ·rfl
     ·intro j hg f2
      rw[gK];exact(ae (af wr.drew (J #[.int I x.k,.int I x.n,.string (cut20 s)] 30)) j).trans (by simpa using f2)
     ·simp[Value.oneCell']
     ·unfold maxLen;omega
     ·omega
     ·exact Nat.le_trans ei a6.size
     intro gg cap w5 dC fS g8 hf;have dl:=ds.out.lt;have b4:Far (λk=>(Value.slice u E z).ownBlock=W k) wr w5:=(a6.mono (λ_ _ e=>e.elim)).grown fS (λk e _=>e);have c6:¬(Value.slice u E z).ownBlock=W g:=λe=>by have:=(dl g e).1;omega
     have dn:(λn=>n.cell? ⟨g,o+t * 3,O⟩=W (.int I x.k)/\n.cell? ⟨g,o+t * 3+1,O⟩=W (.int I x.n)/\n.cell? ⟨g,o+t * 3+2,O⟩=W (.string s)) w5:=⟨b4.at a1 c6,b4.at av c6,b4.at F c6⟩;have a2:Below p w w5:=m.out.trans (b4.to_below ei (λk al e=>by have:=(dl k e).1;omega));rw[<-fY.out]at dC;obtain⟨f3,d5⟩:=zx2 dC a2;refine cb.out _ _ (λ_=>dn) ?_;clear cb K dC a2 b4 fS dl
     (try go_frame)
     refine ay 10 (by kernel_rfl) (λ_ _ _ _ d=>d) dn 0 [27] _ _ (by kernel_rfl) ?_;iterate 1 (refine Ei ?_;(try go_frame))
     refine xT.done ?_;try dsimp only
     refine aP (by kernel_rfl) (NoPanic.normal ?_) _;clear a1 av F ex dn a6 ds m
     go_wp2_with fail
     go_roundw
     case rel=>exact⟨t+1,_,_,_,by omega,by omega,by go_num,rfl,f3.out,d5.out⟩
     case measure=>simp[Lib.intOf];omega
    ·obtain rfl:t=9:=by omega
     have bq:((9:Nat):Int) < (bm:Int):=by omega
     have f0:(9:Int) < (bm:Int):=by omega
     have g1:¬((9:Nat):Int) < 9:=by omega
     have b0:a.length=9:=by rw[<-co.out,List.length_map,List.length_take,bw.out];omega
     have b1:wr.ownsRow p 30 3 (Y u E z) a.length (xV a):=by rw[b0,<-co.out];exact C
     obtain⟨dj,m⟩:=zx2 b1 c;clear C c b1 b0
     go_wp2_with fail
     go_meet
     exact⟨_,_,_,rfl,dj.out,m.out⟩
   ·have bq:¬(t:Int) < (bm:Int):=by omega
    have g4:t=bm:=by omega
    have da:(l.take t).map D5=a:=by rw[<-co.out,zR (by rw[bw.out];omega),zR (by rw[bw.out];omega)]
    have b0:a.length=t:=by rw[<-da,List.length_map,List.length_take,bw.out];omega
    have b1:wr.ownsRow p 30 3 (Y u E z) a.length (xV a):=by rw[b0];rw[da]at C;exact C
    obtain⟨dj,m⟩:=zx2 b1 c;clear C c b1 da b0
    go_wp2_with fail
    go_meet
    exact⟨_,_,_,rfl,dj.out,m.out⟩
 case rest=>
  obtain⟨u,E,z,rfl,C,a3⟩:=hcut;obtain⟨ac,c1⟩:∃ac,a.length=ac:=⟨_,rfl⟩;rw[c1]at C;have hd:ac<=9:=by rw[<-c1];exact dJ.out
  have f7:ac=E:=by
   rcases C.2 with ⟨d,hi⟩|⟨gN,g3,gO,d,_⟩
   ·injection d with ca M h3
    omega
   ·injection d with ca M
    exact M.symm
  subst f7;generalize hwx:wc=wx at C a3 ⊢;clear hwx;have di:p<=wx.heap.size:=by have:=a3.size;omega
  have dr:=zD ((az C).mono (G':=λk=>p<=k/\k < wx.heap.size) (λk ca M=>⟨ca,M⟩));have d1:=zD a3;have e9:=zD (e5.out.keep (by rw[<-G]at a3;exact a3) (by rw[G];exact ga));have gj:=zD (e3.out.below (by rw[<-G]at a3;exact a3));have P:=zD c1;clear C a3 c1 e5 e3 el dW bw co fc eq ft e8 fl
  go_wp2_with fail
  go_loopw [6,7] (λf4 dg wr=>∃(i:Nat),i<=ac/\dg=.int I (i:Int)/\f4=xR (123::D4 (a.take i))/\(∀x∈a.take i,Tp.okKey x)/\Below wx.heap.size wx wr) (λ_ dg _=>ac - (Lib.intOf dg).toNat)
  case atStart=>exact⟨0,z_ _,rfl,rfl,λx d=>by simp at d,ζ _ _⟩
  case round=>
   obtain⟨i,gR,rfl,rfl,H,c⟩:=hrel;have b6:Below p w wr:=d1.out.trans (c.mono di);have A:=e9.out.step c;have S:=dr.out.below c;obtain⟨q,b⟩:∃X,xR (123::D4 (a.take i))=.string X:=⟨_,rfl⟩;have a0:=cU _ _ b;have R:=B1 _ H;have a5:=List.length_take_le i a;rw[zO]at a0;by_cases bb:i < ac
   ·obtain⟨x,f⟩:∃x,a[i]? =W x:=⟨_,zE (by rw[P.out];exact bb)⟩
    have d6:=dA.out x (zL f);obtain⟨gr,gb,gf,db,cv,f8,a1,av,F⟩:=S.sc f;injection db with e11 e12 e13;subst e11 e13;obtain⟨SX,ad⟩:∃b2,xR x.s=.string b2:=⟨_,rfl⟩;rw[ad]at F;have bq:(i:Int) < (ac:Int):=by omega
    have fn:(0:Int)<=(i:Int):=by omega
    cases ab:x8 x with
    |false=>
     have y:=Cz x (by omega) ab wr A;unfold scV at y;rw[ad]at y;rw[b];obtain⟨a9,fz⟩:=zx2 y b6;clear y b6 A S b a0 R a5 H c ab f ad cv
     go_wp2_with fail
     refine a9.out.mono ?_;rintro e ch ⟨rfl,L⟩;have v:=zD (fz.out.trans (L.mono (by have:=fz.out.size;omega)));clear L a1 av F
     go_wp2_with fail
     go_ret
     exact⟨rfl,by first|exact v.out|(rw[G];exact v.out)⟩
    |true=>
     have y:=eb x (by omega) ab wr A;have a4:Tp.okKey x:=(Bm x d6).2 ab;have d3:=Tp.gV x a4;obtain⟨D,N⟩:∃X,xR (Tp.scText x)=.string X:=⟨_,rfl⟩;have d0:=cU _ _ N;have b8:(⟨(Tp.scText x).toArray⟩:ByteArray)=D:=by unfold xR at N;injection N
     have bR:a.take (i+1)=a.take i++[x]:=by rw[zG,f];rfl
     have cf:xR (123::D4 (a.take (i+1)))=.string (q++D++(⟨#[58,32,55,44,32]⟩:ByteArray)):=by
      rw[bR,DP,<-b8];exact aZ _ _ _ (aZ (123::D4 (a.take i)) _ _ b)
     have en:∀ao∈a.take (i+1),Tp.okKey ao:=λao cS=>by
      rw[bR]at cS;rcases List.mem_append.1 cS with d|d
      ·exact H ao d
      ·rw[List.mem_singleton]at d;rw[d];exact a4
     unfold scV at y;rw[ad,N]at y;have T:(⟨#[58,32,55,44,32]⟩:ByteArray).size=5:=rfl;have f5:(q++D).size<=maxLen:=by rw[zX];unfold maxLen;omega
     have gx:(q++D++(⟨#[58,32,55,44,32]⟩:ByteArray)).size<=maxLen:=by rw[zX,zX,T];unfold maxLen;omega
     have fX:¬9223372036854775807 < q.size+D.size:=by omega
     have gJ:¬9223372036854775807 < q.size+D.size+5:=by omega
     rw[b];obtain⟨a9,ef,gk,m⟩:=zx4 y cf en c;clear y b6 A S b a0 R a5 H c ab f ad cv N b8 bR cf en d3 d0 a4 T
     go_wp2_with fail
     refine a9.out.mono ?_;rintro e ch ⟨rfl,L⟩;have v:=zD (m.out.trans (L.mono m.out.size));clear L a1 av F a9 m
     go_wp2_with fail
     go_roundw
     case rel=>exact⟨i+1,bb,by go_num,ef.out.symm,gk.out,v.out⟩
     case measure=>simp[Lib.intOf];omega
   ·obtain rfl:i=ac:=by omega
    have bq:¬(i:Int) < (i:Int):=by omega
    rw[zR (by rw[P.out];exact η _)]at H b R;rw[zR (show a.length<=i by rw[P.out];exact η _),b];have b9:=aZ _ [125] _ b;rw[List.cons_append,Cr]at b9;rw[P.out]at R;have ek:q.size=(D4 a).length+1:=by have:=cU _ _ b;rw[zO]at this;exact this
    have g7:(q++(⟨#[125]⟩:ByteArray)).size<=maxLen:=by rw[zX];unfold maxLen;show q.size+1<=_;omega
    have gQ:¬9223372036854775807 < q.size+1:=by omega
    have c3:q.size+1<=maxLen:=by unfold maxLen;omega
    have d2:=gj.out.below c;have cl:∀x∈a,x8 x=true/\x.s.length<=1000:=λx f=>⟨(Bm x (dA.out x f)).1 (H x f),by have:=dA.out x f;omega⟩;have bD:=λn (d:Below wx.heap.size wx n)=>jI a (Y u i z) (λk=>p<=k/\k < wx.heap.size) n (λx f=>qT x (cl x f).1 (cl x f).2) (by rw[P.out];exact dr.out.below d) (λk al=>zK al.2 d.size);have c4:=λn (d:Below wx.heap.size wx n)=>Dx a (Y u i z) (λk=>p<=k/\k < wx.heap.size) n (by rw[P.out];omega) (λk al=>zK al.2 d.size) (by rw[P.out];exact dr.out.below d);cases bn:Tp.twice a with
    |true=>
     rw[bn]at bD;have ba:=CB a dJ.out H bn wr A d2;rw[b9]at ba;obtain⟨cc,b3,m⟩:=zx3 ba bD c;clear ba bD c4 d2 cl A S b b9 a0 ek R a5 H c bn b6
     go_wp2_with fail
     refine cc.out.mono ?_;rintro e ch ⟨rfl,L⟩;have v:=zD (m.out.trans (L.mono m.out.size));clear L cc m
     go_wp2_with fail
     refine(b3.out ch v.out).mono ?_;rintro e ep ⟨rfl,b5⟩;have bk:=zD (d1.out.trans ((v.out.trans (b5.mono v.out.size)).mono di));clear b5 b3 v
     go_wp2_with fail
     go_ret
     exact⟨rfl,by first|exact bk.out|(rw[G];exact bk.out)⟩
    |false=>
     rw[bn]at bD;have ba:=CC a dJ.out H bn wr A;obtain⟨e2,an⟩:∃X,xR (D6 a)=.string X:=⟨_,rfl⟩;rw[b9,an]at ba;obtain⟨r,bs⟩:∃b2,Tp.sortK a=b2:=⟨_,rfl⟩;have dc:r.length=i:=by rw[<-bs,Tp.A0];exact P.out
     have fw:∀ao∈r,Tp.okKey ao:=by rw[<-bs];exact Bi a H
     have er:(r=[]->e2=⟨#[123,125,10]⟩)/\(r≠[]->xR (Tp.wantK r)=.string e2):=by
      unfold D6 at an;rw[bs]at an;by_cases al:a=[]
      ·rw[if_pos al]at an
       have df:r=[]:=by rw[<-bs,al];rfl
       exact⟨λ_=>by unfold xR at an;injection an with d;exact d.symm,λd=>absurd df d⟩
      ·rw[if_neg al]at an
       have df:r≠[]:=λe=>al (List.length_eq_zero_iff.1 (by rw[P.out,<-dc,e];rfl));exact⟨λd=>absurd d df,λ_=>an⟩
     rw[bs]at c4;obtain⟨cc,b3,fE,m,d4,fv⟩:=zx6 ba bD c4 c dc fw;have fR:=zD er;clear ba bD c4 d2 cl A S b b9 a0 ek R a5 H c bn b6 an bs dc fw er
     go_wp2_with fail
     refine cc.out.mono ?_;rintro e ch ⟨rfl,L⟩;have v:=zD (m.out.trans (L.mono m.out.size));clear L cc m
     go_wp2_with fail
     refine(b3.out ch v.out).mono ?_;rintro e ep ⟨rfl,b5⟩;have bk:=zD (v.out.trans (b5.mono v.out.size));clear b5 b3 v
     go_wp2_with fail
     refine(fE.out ep bk.out).mono ?_;rintro e c0 ⟨⟨hb,rfl,ab⟩,fL⟩;rw[P.out]at ab;obtain⟨g2,gZ,rfl,_⟩:=ab.form;have a2:=bk.out.trans (fL.mono bk.out.size);have ge:=zD (e9.out.step a2);have dv:Below p w c0:=d1.out.trans (a2.mono di);have fT:p<=c0.heap.size:=by have:=dv.size;omega
     obtain⟨f6,gl⟩:=zx2 dv ab;clear ab fL a2 dv fE bk
     go_wp2_with fail
     go_loopw [12,14] (λgd dm wr=>∃(j:Nat),j<=i/\dm=.int I (j:Int)/\gd=xR (Tp.wantK (r.take j))/\Below c0.heap.size c0 wr) (λ_ dm _=>i - (Lib.intOf dm).toNat)
     case atStart=>exact⟨0,z_ _,rfl,rfl,ζ _ _⟩
     case round=>
      obtain⟨j,he,rfl,rfl,c⟩:=hrel;have A:=ge.out.step c;have S:=gl.out.below c;obtain⟨q,b⟩:∃X,xR (Tp.wantK (r.take j))=.string X:=⟨_,rfl⟩;have a0:=cU _ _ b;have R:=BJ (r.take j) (λao cS=>fv.out ao (List.mem_of_mem_take cS));have a5:=List.length_take_le j r;by_cases bb:j < i
      ·obtain⟨x,f⟩:∃x,r[j]? =W x:=⟨_,zE (by rw[d4.out];exact bb)⟩
       have a4:=fv.out x (zL f);have d6:=a4.2.1;obtain⟨gr,gb,gf,db,cv,f8,a1,av,F⟩:=S.sc f;injection db with e11 e12 e13;subst e11 e13;obtain⟨SX,ad⟩:∃b2,xR x.s=.string b2:=⟨_,rfl⟩;rw[ad]at F;have bq:(j:Int) < (i:Int):=by omega
       have fn:(0:Int)<=(j:Int):=by omega
       have y:=eb x (by omega) ((Bm x d6).1 a4) wr A;have d3:=Tp.gV x a4;obtain⟨D,N⟩:∃X,xR (Tp.scText x)=.string X:=⟨_,rfl⟩;have d0:=cU _ _ N;have b8:(⟨(Tp.scText x).toArray⟩:ByteArray)=D:=by unfold xR at N;injection N
       have cf:xR (Tp.wantK (r.take (j+1)))=.string (q++D++(⟨#[58,32,55,10]⟩:ByteArray)):=by
        rw[show r.take (j+1)=r.take j++[x]by rw[zG,f];rfl,DO,<-b8];exact aZ _ _ _ (aZ _ _ _ b)
       unfold scV at y;rw[ad,N]at y;have T:(⟨#[58,32,55,10]⟩:ByteArray).size=4:=rfl;have f5:(q++D).size<=maxLen:=by rw[zX];unfold maxLen;omega
       have gx:(q++D++(⟨#[58,32,55,10]⟩:ByteArray)).size<=maxLen:=by rw[zX,zX,T];unfold maxLen;omega
       have fX:¬9223372036854775807 < q.size+D.size:=by omega
       have gJ:¬9223372036854775807 < q.size+D.size+4:=by omega
       rw[b];obtain⟨a9,ef,m⟩:=zx3 y cf c;clear y A S b a0 R a5 c f ad cv N b8 cf d3 d0 a4 T
       go_wp2_with fail
       refine a9.out.mono ?_;rintro e w5 ⟨rfl,a2⟩;have d5:=zD (m.out.trans (a2.mono m.out.size));clear a2 a1 av F a9 m
       go_wp2_with fail
       go_roundw
       case rel=>exact⟨j+1,bb,by go_num,ef.out.symm,d5.out⟩
       case measure=>simp[Lib.intOf];omega
      ·obtain rfl:j=i:=by omega
       have bq:¬(j:Int) < (j:Int):=by omega
       rw[zR (by rw[d4.out];exact η _)]at b;rw[zR (show r.length<=j by rw[d4.out];exact η _),b];have c2:=zD (f6.out.trans (c.mono fT));by_cases cT:r=[]
       ·have ca:q=⟨#[]⟩:=by rw[cT]at b;unfold xR at b;injection b with d;exact d.symm
        have M:=fR.out.1 cT;subst ca M;clear b c A S R a5 a0
        go_wp2_with fail
        go_ret
        exact⟨rfl,by first|exact c2.out|(rw[G];exact c2.out)⟩
       ·have M:=fR.out.2 cT
        rw[b]at M;injection M with M;subst M;have hc:q.toList.isEmpty=false:=by
         unfold xR at b;injection b with b;rw[<-b,cZ];exact De r cT
        clear b c A S R a5 a0
        go_wp2_with fail
        go_ret
        exact⟨rfl,by first|exact c2.out|(rw[G];exact c2.out)⟩
end Go.Proofs.YtbikgdhbiebhcaaGreatDoor
